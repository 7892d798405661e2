/- best.parts and container/heap: printed walks. -/
import Derived.Test.YtclbncbolhmolaaC6
import Derived.Test.YtclbncbolhmolaaM4
namespace Go.X
open Go Go.Proofs
set_option linter.unusedVariables false
set_option linter.unusedSimpArgs false
attribute [local irreducible] rowP HP.obj HP.old
theorem meth_Len : methT Try.prog 104 "Len" = some (147, false, 97) := by kernel_rfl
theorem meth_Less : methT Try.prog 104 "Less" = some (148, false, 97) := by kernel_rfl
theorem meth_Swap : methT Try.prog 104 "Swap" = some (149, false, 97) := by kernel_rfl
theorem meth_Push : methT Try.prog 104 "Push" = some (153, true, 97) := by kernel_rfl
theorem meth_Pop : methT Try.prog 104 "Pop" = some (152, true, 97) := by kernel_rfl
def cmpI (x y : Int) : Int := if x < y then -1 else if y < x then 1 else 0
def orI : List Int → Int
  | [] => 0
  | x :: l => if x = 0 then orI l else x
theorem drop_gt {xs : List Int} {k : Nat} (h : k < xs.length) : xs.drop k = gt xs (k : Int) :: xs.drop (k + 1) := by
  rw [List.drop_eq_getElem_cons h, gt_nat]; simp [h]
theorem less_eq (x y : Prt) : decide (orI [cmpI (y.b - y.a) (x.b - x.a), cmpI x.ls y.ls] < 0) = lessP x y := by
  unfold lessP orI orI orI cmpI
  by_cases h1 : y.b - y.a < x.b - x.a
  · simp [h1]
  · by_cases h2 : x.b - x.a < y.b - y.a
    · have : ¬ (y.b - y.a = x.b - x.a) := by omega
      simp [h1, h2, this]
    · have e : y.b - y.a = x.b - x.a := by omega
      by_cases h3 : x.ls < y.ls
      · simp [h1, h2, h3, e]
      · by_cases h4 : y.ls < x.ls <;> simp [h1, h2, h3, h4, e]
theorem PB_gt {q : List Prt} (h : ∀ x ∈ q, PB x) {i : Int} (h0 : 0 ≤ i) (h1 : i < q.length) : PB (gt q i) := h _ (List.mem_of_getElem? (gt_get h0 h1))

theorem c_isNaN {h : Heap} {x : Int} :
    FnT Try.prog 128 [.int .i64 x] h (fun v h' => v = .bool false ∧ h = h') := by
  refine fn_enter Try.func128 rfl Try.ntmps128 rfl ?_
  refine cd_seq ?_
  refine cd_region ?_
  refine ol_y rfl rfl (y_assign rfl rfl) ?_
  refine ol_nil ?_
  refine thenX_n ?_
  refine cd_seq ?_
  refine cd_region ?_
  refine ol_y rfl rfl (y_move rfl rfl) ?_
  refine ol_y rfl rfl (y_move rfl rfl) ?_
  refine ol_y rfl rfl (y_neq rfl rfl rfl) ?_
  refine ol_y rfl rfl (y_assign rfl rfl) ?_
  refine ol_nil ?_
  refine thenX_n ?_
  refine cd_ret ?_
  refine ret1 Try.results128 rfl ?_
  exact ⟨vbool (by simp), rfl⟩


theorem c_Compare {h : Heap} {x y : Int} :
    FnT Try.prog 151 [.int .i64 x, .int .i64 y] h (fun v h' => v = .int .i64 (cmpI x y) ∧ h = h') := by
  refine fn_enter Try.func151 rfl Try.ntmps151 rfl ?_
  refine cd_seq ?_
  refine cd_region ?_
  refine ol_y rfl rfl (y_assign rfl rfl) ?_
  refine ol_nil ?_
  refine thenX_n ?_
  refine cd_seq ?_
  refine cd_region ?_
  refine ol_y rfl rfl (y_move rfl rfl) ?_
  refine ol_x rfl rfl (x_call rfl go128 rfl c_isNaN) ?_
  rintro _ _ ⟨rfl, rfl⟩
  refine ol_y rfl rfl (y_assign rfl rfl) ?_
  refine ol_nil ?_
  refine thenX_n ?_
  refine cd_seq ?_
  refine cd_region ?_
  refine ol_y rfl rfl (y_move rfl rfl) ?_
  refine ol_x rfl rfl (x_call rfl go128 rfl c_isNaN) ?_
  rintro _ _ ⟨rfl, rfl⟩
  refine ol_y rfl rfl (y_assign rfl rfl) ?_
  refine ol_nil ?_
  refine thenX_n ?_
  refine cd_seq ?_
  refine cd_seq ?_
  refine cd_region ?_
  refine ol_y rfl rfl (y_move rfl rfl) ?_
  refine ol_nil ?_
  refine thenX_n ?_
  refine cd_false rfl rfl ?_
  refine cd_skip ?_
  refine thenX_n ?_
  refine cd_seq ?_
  refine cd_seq ?_
  refine cd_region ?_
  refine ol_y rfl rfl (y_move rfl rfl) ?_
  refine ol_nil ?_
  refine thenX_n ?_
  refine cd_false rfl rfl ?_
  refine cd_skip ?_
  refine thenX_n ?_
  refine cd_seq ?_
  refine cd_seq ?_
  refine cd_region ?_
  refine ol_y rfl rfl (y_move rfl rfl) ?_
  refine ol_y rfl rfl (y_move rfl rfl) ?_
  refine ol_y rfl rfl (y_lss rfl rfl rfl) ?_
  refine ol_nil ?_
  refine thenX_n ?_
  refine cd_cond _ rfl (fun hc3 => ?_) (fun hc3 => ?_)
  · (try replace hc3 := of_decide_eq_true hc3)
    refine cd_seq ?_
    refine cd_region ?_
    refine ol_y rfl rfl (y_assign rfl rfl) ?_
    refine ol_nil ?_
    refine thenX_n ?_
    refine cd_ret ?_
    refine thenX_r ?_
    refine ret1 Try.results151 rfl ?_
    refine ⟨vint ?_, rfl⟩
    unfold cmpI
    first
      | rw [if_pos (by omega)]
      | rw [if_neg (by omega), if_pos (by omega)]
      | rw [if_neg (by omega), if_neg (by omega)]
  · (try replace hc3 := of_decide_eq_false hc3)
    refine cd_skip ?_
    refine thenX_n ?_
    refine cd_seq ?_
    refine cd_seq ?_
    refine cd_region ?_
    refine ol_y rfl rfl (y_move rfl rfl) ?_
    refine ol_y rfl rfl (y_move rfl rfl) ?_
    refine ol_y rfl rfl (y_gtr rfl rfl rfl) ?_
    refine ol_nil ?_
    refine thenX_n ?_
    refine cd_cond _ rfl (fun hc4 => ?_) (fun hc4 => ?_)
    · (try replace hc4 := of_decide_eq_true hc4)
      refine cd_seq ?_
      refine cd_region ?_
      refine ol_y rfl rfl (y_assign rfl rfl) ?_
      refine ol_nil ?_
      refine thenX_n ?_
      refine cd_ret ?_
      refine thenX_r ?_
      refine ret1 Try.results151 rfl ?_
      refine ⟨vint ?_, rfl⟩
      unfold cmpI
      first
        | rw [if_pos (by omega)]
        | rw [if_neg (by omega), if_pos (by omega)]
        | rw [if_neg (by omega), if_neg (by omega)]
    · (try replace hc4 := of_decide_eq_false hc4)
      refine cd_skip ?_
      refine thenX_n ?_
      refine cd_seq ?_
      refine cd_region ?_
      refine ol_y rfl rfl (y_assign rfl rfl) ?_
      refine ol_nil ?_
      refine thenX_n ?_
      refine cd_ret ?_
      refine ret1 Try.results151 rfl ?_
      refine ⟨vint ?_, rfl⟩
      unfold cmpI
      first
        | rw [if_pos (by omega)]
        | rw [if_neg (by omega), if_pos (by omega)]
        | rw [if_neg (by omega), if_neg (by omega)]


theorem c_Or {h : Heap} {v : Value} {b p c : Nat} {xs : List Int} (hv : SlV v b p xs.length c) (hr : Rd eI 1 h b p xs) (hl : xs.length ≤ 4194304) :
    FnT Try.prog 150 [v] h (fun v h' => v = .int .i64 (orI xs) ∧ h = h') := by
  refine fn_enter Try.func150 rfl Try.ntmps150 rfl ?_
  refine cd_seq ?_
  refine cd_region ?_
  refine ol_y rfl rfl (y_assign rfl rfl) ?_
  refine ol_nil ?_
  refine thenX_n ?_
  refine cd_seq ?_
  refine cd_region ?_
  refine ol_y rfl rfl (y_assign rfl rfl) ?_
  refine ol_nil ?_
  refine thenX_n ?_
  refine cd_seq ?_
  refine cd_seq ?_
  refine cd_region ?_
  refine ol_y rfl rfl (y_move rfl rfl) ?_
  refine ol_y rfl rfl (y_lenV rfl Try.underlying22 rfl (by first | assumption | exact SlV.mk' _ _ _ _)) ?_
  refine ol_y rfl rfl (y_move rfl rfl) ?_
  refine ol_nil ?_
  refine thenX_n ?_
  refine cd_block ?_
  refine cd_loop (γ := Nat) (fun k => [(3, .int .i64 0), (6, v), (7, .int .i64 xs.length), (8, .int .i64 k)]) (fun k h' => h = h' ∧ k ≤ xs.length ∧ orI (xs.drop k) = orI xs) (fun k => xs.length - k) (0) ?_ ?_ ?_
  · (repeat (first | exact trivial | refine ⟨rfl, ?_⟩))
  · exact ⟨rfl, by omega, rfl⟩
  · skip
    rintro k ρ h1 ⟨rfl, hk, he⟩
    (try dsimp only)
    refine cd_seq ?_
    refine cd_region ?_
    refine ol_y rfl rfl (y_lss rfl rfl rfl) ?_
    refine ol_nil ?_
    refine thenX_n ?_
    refine cd_seq ?_
    refine cd_cond _ rfl (fun hc0 => ?_) (fun hc0 => ?_)
    · (try replace hc0 := of_decide_eq_true hc0)
      refine cd_skip ?_
      refine thenX_n ?_
      refine cd_seq ?_
      refine cd_block ?_
      refine cd_seq ?_
      refine cd_region ?_
      refine ol_y rfl rfl (y_indexV rfl Try.underlying22 sz3 rfl (by first | assumption | exact SlV.mk' _ _ _ _) rfl (by omega) (by omega)) ?_
      refine ol_y rfl rfl (y_load rfl rfl (fun _ e => ldeq e (ld_row scl3 (by assumption) (by omega) (by omega)))) ?_
      refine ol_y rfl rfl (y_assign rfl rfl) ?_
      refine ol_nil ?_
      refine thenX_n ?_
      refine cd_seq ?_
      refine cd_region ?_
      refine ol_y rfl rfl (y_move rfl rfl) ?_
      refine ol_y rfl rfl (y_move rfl rfl) ?_
      refine ol_y rfl rfl (y_neq rfl rfl rfl) ?_
      refine ol_nil ?_
      refine thenX_n ?_
      refine cd_cond _ rfl (fun hc1 => ?_) (fun hc1 => ?_)
      · (try replace hc1 := of_decide_eq_true hc1)
        refine cd_seq ?_
        refine cd_region ?_
        refine ol_y rfl rfl (y_move rfl rfl) ?_
        refine ol_y rfl rfl (y_assign rfl rfl) ?_
        refine ol_nil ?_
        refine thenX_n ?_
        refine cd_ret ?_
        refine blockX_r ?_
        refine thenX_r ?_
        refine thenX_r ?_
        refine blockX_r ?_
        refine thenX_r ?_
        refine ret1 Try.results150 rfl ?_
        rw [drop_gt (by omega), orI, if_neg (by omega)] at he
        exact ⟨vint he, rfl⟩
      · (try replace hc1 := of_decide_eq_false hc1)
        refine cd_skip ?_
        refine blockX_n ?_
        refine thenX_n ?_
        refine cd_region ?_
        refine ol_y rfl rfl (y_addi rfl rfl rfl (in64 (by omega) (by omega))) ?_
        refine ol_y rfl rfl (y_move rfl rfl) ?_
        refine ol_nil ?_
        refine thenX_n ?_
        refine ⟨k + 1, ⟨rfl, rfl, rfl, vint (by simp), trivial⟩, ⟨rfl, by omega, ?_⟩, by omega⟩
        rw [drop_gt (by omega), orI, if_pos (by omega)] at he
        exact he
    · (try replace hc0 := of_decide_eq_false hc0)
      refine cd_exit ?_
      refine thenX_e ?_
      refine thenX_e ?_
      refine blockX_hit ?_
      refine thenX_n ?_
      refine cd_seq ?_
      refine cd_region ?_
      refine ol_y rfl rfl (y_move rfl rfl) ?_
      refine ol_y rfl rfl (y_assign rfl rfl) ?_
      refine ol_nil ?_
      refine thenX_n ?_
      refine cd_ret ?_
      refine ret1 Try.results150 rfl ?_
      rw [List.drop_eq_nil_of_le (by omega), orI] at he
      exact ⟨vint he, rfl⟩


theorem c_pLen {h : Heap} {v : Value} {b p n c : Nat} (hv : SlV v b p n c) :
    FnT Try.prog 147 [v] h (fun v h' => v = .int .i64 n ∧ h = h') := by
  refine fn_enter Try.func147 rfl Try.ntmps147 rfl ?_
  refine cd_seq ?_
  refine cd_region ?_
  refine ol_y rfl rfl (y_assign rfl rfl) ?_
  refine ol_nil ?_
  refine thenX_n ?_
  refine cd_seq ?_
  refine cd_region ?_
  refine ol_y rfl rfl (y_move rfl rfl) ?_
  refine ol_y rfl rfl (y_lenV rfl Try.underlying97 rfl (by first | assumption | exact SlV.mk' _ _ _ _)) ?_
  refine ol_y rfl rfl (y_assign rfl rfl) ?_
  refine ol_nil ?_
  refine thenX_n ?_
  refine cd_ret ?_
  refine ret1 Try.results147 rfl ?_
  exact ⟨rfl, rfl⟩


theorem c_pLess {h : Heap} {v : Value} {b p c : Nat} {q : List Prt} (hv : SlV v b p q.length c) (hr : Rd ePt 5 h b p q) (hpb : ∀ x ∈ q, PB x) {i j : Nat} (hi : i < q.length) (hj : j < q.length) :
    FnT Try.prog 148 [v, .int .i64 i, .int .i64 j] h (fun v h' => v = .bool (lessP (gt q (i : Int)) (gt q (j : Int))) ∧ Ext h h') := by
  have H := Sep.start h
  have hbi := PB_gt hpb (i := (i : Int)) (by omega) (by omega)
  have hbj := PB_gt hpb (i := (j : Int)) (by omega) (by omega)
  unfold PB at hbi hbj
  refine fn_enter Try.func148 rfl Try.ntmps148 rfl ?_
  refine cd_seq ?_
  refine cd_region ?_
  refine ol_y rfl rfl (y_assign rfl rfl) ?_
  refine ol_nil ?_
  refine thenX_n ?_
  refine cd_seq ?_
  refine cd_draw (some 34) (fun x => x = h) [(0, 0), (1, 0), (2, 0), (3, 0), (4, 1), (5, 0), (6, 0), (7, 0), (8, 0), (9, 1), (10, 0), (11, 0), (12, 0), (13, 0), (14, 0), (15, 1), (16, 0), (17, 0), (18, 0), (19, 0), (20, 1), (21, 0), (23, 0), (24, 0), (25, 0), (26, 0), (27, 1), (28, 0), (29, 0), (30, 0), (31, 0), (32, 1), (22, 2), (33, 2), (34, 2), (35, 3), (36, 0), (37, 0)] mixed (by kernel_rfl) (by kernel_rfl) (by kernel_rfl) ?_ ?_
  · exact rfl
  refine hs_p rfl rfl rfl (y_move rfl rfl) ?_
  refine hs_p rfl rfl rfl (y_move rfl rfl) ?_
  refine hs_p rfl rfl rfl (y_indexV rfl Try.underlying97 sz102 rfl (by first | assumption | exact SlV.mk' _ _ _ _) rfl (by omega) (by omega)) ?_
  refine hs_p rfl rfl rfl (y_fieldAddr rfl fo102_4 rfl) ?_
  refine hs_y rfl rfl rfl (y_load rfl rfl (fun _ e => ldeq e (ld_rowf scl3 (by assumption) (by omega) (by omega) rfl))) ?_
  refine hs_p rfl rfl rfl (y_move rfl rfl) ?_
  refine hs_p rfl rfl rfl (y_move rfl rfl) ?_
  refine hs_p rfl rfl rfl (y_indexV rfl Try.underlying97 sz102 rfl (by first | assumption | exact SlV.mk' _ _ _ _) rfl (by omega) (by omega)) ?_
  refine hs_p rfl rfl rfl (y_fieldAddr rfl fo102_3 rfl) ?_
  refine hs_y rfl rfl rfl (y_load rfl rfl (fun _ e => ldeq e (ld_rowf scl3 (by assumption) (by omega) (by omega) rfl))) ?_
  refine hs_p rfl rfl rfl (y_subi rfl rfl rfl (in64 (by omega) (by omega))) ?_
  refine hs_p rfl rfl rfl (y_move rfl rfl) ?_
  refine hs_p rfl rfl rfl (y_move rfl rfl) ?_
  refine hs_p rfl rfl rfl (y_indexV rfl Try.underlying97 sz102 rfl (by first | assumption | exact SlV.mk' _ _ _ _) rfl (by omega) (by omega)) ?_
  refine hs_p rfl rfl rfl (y_fieldAddr rfl fo102_4 rfl) ?_
  refine hs_y rfl rfl rfl (y_load rfl rfl (fun _ e => ldeq e (ld_rowf scl3 (by assumption) (by omega) (by omega) rfl))) ?_
  refine hs_p rfl rfl rfl (y_move rfl rfl) ?_
  refine hs_p rfl rfl rfl (y_move rfl rfl) ?_
  refine hs_p rfl rfl rfl (y_indexV rfl Try.underlying97 sz102 rfl (by first | assumption | exact SlV.mk' _ _ _ _) rfl (by omega) (by omega)) ?_
  refine hs_p rfl rfl rfl (y_fieldAddr rfl fo102_3 rfl) ?_
  refine hs_y rfl rfl rfl (y_load rfl rfl (fun _ e => ldeq e (ld_rowf scl3 (by assumption) (by omega) (by omega) rfl))) ?_
  refine hs_p rfl rfl rfl (y_subi rfl rfl rfl (in64 (by omega) (by omega))) ?_
  refine hs_p rfl rfl rfl (y_move rfl rfl) ?_
  refine hs_p rfl rfl rfl (y_move rfl rfl) ?_
  refine hs_p rfl rfl rfl (y_indexV rfl Try.underlying97 sz102 rfl (by first | assumption | exact SlV.mk' _ _ _ _) rfl (by omega) (by omega)) ?_
  refine hs_p rfl rfl rfl (y_fieldAddr rfl fo102_2 rfl) ?_
  refine hs_y rfl rfl rfl (y_load rfl rfl (fun _ e => ldeq e (ld_rowf scl3 (by assumption) (by omega) (by omega) rfl))) ?_
  refine hs_p rfl rfl rfl (y_move rfl rfl) ?_
  refine hs_p rfl rfl rfl (y_move rfl rfl) ?_
  refine hs_p rfl rfl rfl (y_indexV rfl Try.underlying97 sz102 rfl (by first | assumption | exact SlV.mk' _ _ _ _) rfl (by omega) (by omega)) ?_
  refine hs_p rfl rfl rfl (y_fieldAddr rfl fo102_2 rfl) ?_
  refine hs_y rfl rfl rfl (y_load rfl rfl (fun _ e => ldeq e (ld_rowf scl3 (by assumption) (by omega) (by omega) rfl))) ?_
  refine hs_x rfl rfl rfl (x_call rfl go151 rfl c_Compare) ?_
  rintro _ _ ⟨rfl, rfl⟩
  refine ⟨rfl, ?_⟩
  refine hs_x rfl rfl rfl (x_call rfl go151 rfl c_Compare) ?_
  rintro _ _ ⟨rfl, rfl⟩
  refine ⟨rfl, ?_⟩
  refine hs_xk rfl rfl rfl (x_buildSlice (cs := [_, _]) rfl Try.underlying22 info3 rfl rfl rfl rfl H) rfl ?_
  clear H
  rintro _ h3 ⟨rfl, hz_b, H⟩
  replace H := Sep.rowBlk (enc := eI) (xs := [cmpI ((gt q (j : Int)).b - (gt q (j : Int)).a) ((gt q (i : Int)).b - (gt q (i : Int)).a), cmpI (gt q (i : Int)).ls (gt q (j : Int)).ls]) eI_ok rfl (by simp [maxLen]) H
  have hv1_34 := H.rowV eI_ok 0 rfl
  have hr1_34 := H.rowR eI_ok 0 rfl
  refine hs_xa rfl rfl rfl (x_call rfl go150 rfl (c_Or hv1_34 hr1_34 (by simp))) ?_
  rintro _ _ ⟨rfl, rfl⟩
  refine hs_p rfl rfl rfl (y_lss rfl rfl rfl) ?_
  refine hs_p rfl rfl rfl (y_assign rfl rfl) ?_
  refine hs_nil ?_
  refine thenX_n ?_
  refine cd_ret ?_
  refine ret1 Try.results148 rfl ?_
  exact ⟨vbool (less_eq _ _), H.ext 1 rfl⟩


theorem c_pSwap {h : Heap} {qv : Value} {qb qc : Nat} {q : List Prt} {L : List HP} (H : Sep h (rowP ePt 5 102 qv qb qc q :: L)) {i j : Nat} (hi : i < q.length) (hj : j < q.length) :
    FnT Try.prog 149 [qv, .int .i64 i, .int .i64 j] h (fun v h' => v = .tuple #[] ∧ h'.size = h.size ∧ Sep h' (rowP ePt 5 102 qv qb qc (swapL q i j) :: L)) := by
  have hv := H.rowV ePt_ok 0 rfl
  have hr := H.rowR ePt_ok 0 rfl
  refine fn_enter Try.func149 rfl Try.ntmps149 rfl ?_
  refine cd_draw (some 13) (fun x => x = h) [(0, 0), (1, 0), (2, 0), (3, 0), (4, 0), (5, 0), (6, 0), (7, 1), (8, 0), (9, 0), (10, 0), (11, 1), (12, 0), (13, 2), (14, 0), (15, 3)] mixed (by kernel_rfl) (by kernel_rfl) (by kernel_rfl) ?_ ?_
  · exact rfl
  refine hs_p rfl rfl rfl (y_move rfl rfl) ?_
  refine hs_p rfl rfl rfl (y_move rfl rfl) ?_
  refine hs_p rfl rfl rfl (y_move rfl rfl) ?_
  refine hs_p rfl rfl rfl (y_move rfl rfl) ?_
  refine hs_p rfl rfl rfl (y_move rfl rfl) ?_
  refine hs_p rfl rfl rfl (y_move rfl rfl) ?_
  refine hs_p rfl rfl rfl (y_indexV rfl Try.underlying97 sz102 rfl (by first | assumption | exact SlV.mk' _ _ _ _) rfl (by omega) (by omega)) ?_
  refine hs_y rfl rfl rfl (y_load rfl rfl (fun _ e => ldeq e (ld_rowN agg102 ePt_ok (by assumption) (by omega) (by omega) rfl))) ?_
  refine hs_p rfl rfl rfl (y_move rfl rfl) ?_
  refine hs_p rfl rfl rfl (y_move rfl rfl) ?_
  refine hs_p rfl rfl rfl (y_indexV rfl Try.underlying97 sz102 rfl (by first | assumption | exact SlV.mk' _ _ _ _) rfl (by omega) (by omega)) ?_
  refine hs_y rfl rfl rfl (y_load rfl rfl (fun _ e => ldeq e (ld_rowN agg102 ePt_ok (by assumption) (by omega) (by omega) rfl))) ?_
  refine hs_p rfl rfl rfl (y_indexV rfl Try.underlying97 sz102 rfl (by first | assumption | exact SlV.mk' _ _ _ _) rfl (by omega) (by omega)) ?_
  refine hs_xk rfl rfl rfl (x_setRowN (enc := ePt) (y' := gt q (j : Int)) rfl rfl rfl sz102 ePt_ok (by omega) (by omega) H) rfl ?_
  clear H
  rintro _ h1 ⟨rfl, hz1, H⟩
  refine hs_p rfl rfl rfl (y_indexV rfl Try.underlying97 sz102 rfl (by first | assumption | exact SlV.mk' _ _ _ _) rfl (by omega) (by omega)) ?_
  refine hs_xa rfl rfl rfl (x_setRowN (enc := ePt) (y' := gt q (i : Int)) rfl rfl rfl sz102 ePt_ok (by omega) (by rw [List.length_set]; omega) H) ?_
  clear H
  rintro _ h2 ⟨rfl, hz2, H⟩
  refine hs_nil ?_
  refine ret0n Try.results149 ?_
  rw [Int.toNat_natCast, Int.toNat_natCast] at H
  exact ⟨rfl, by omega, H⟩


end Go.X
