/- Sorted: printed walk. -/
import Derived.Test.YtclbncbolhmolaaC13
namespace Go.X
open Go Go.Proofs
set_option linter.unusedVariables false
set_option linter.unusedSimpArgs false
attribute [local irreducible] rowP HP.obj HP.old
theorem shift_set {α : Type} [Inhabited α] {xs : List α} {i : Nat} {w : α} (h0 : 0 < i) (hi : i ≤ xs.length) : (xs.take i ++ w :: xs.drop i).set i (gt (xs.take i ++ w :: xs.drop i) (((i - 1 : Nat) : Int))) = xs.take (i - 1) ++ gt xs ((i - 1 : Nat) : Int) :: xs.drop (i - 1) := by
  have e1 : gt (xs.take i ++ w :: xs.drop i) ((i - 1 : Nat) : Int) = gt xs ((i - 1 : Nat) : Int) := by
    simp only [gt_nat, List.getD_eq_getElem?_getD]
    rw [List.getElem?_append_left (by rw [List.length_take]; omega), List.getElem?_take, if_pos (by omega)]
  have hl : (xs.take i).length = i := by rw [List.length_take]; omega
  rw [e1, List.set_append_right _ _ (by omega), hl, Nat.sub_self, List.set_cons_zero]
  obtain ⟨j, rfl⟩ : ∃ j, i = j + 1 := ⟨i - 1, by omega⟩
  simp only [Nat.add_sub_cancel]
  rw [List.take_add_one, List.append_assoc]
  congr 1
  have : xs[j]? = some (gt xs (j : Int)) := by have := gt_get (xs := xs) (i := (j : Int)) (by omega) (by omega); rwa [Int.toNat_natCast] at this
  rw [this]
  rw [List.drop_eq_getElem_cons (show j < xs.length by omega)]
  have h2 : xs[j] = gt xs (j : Int) := by simp [gt, show j < xs.length by omega]
  rw [h2]; rfl
theorem last_set {α : Type} {xs : List α} {i : Nat} {w x : α} (hi : i ≤ xs.length) : (xs.take i ++ w :: xs.drop i).set i x = xs.take i ++ x :: xs.drop i := by
  have hl : (xs.take i).length = i := by rw [List.length_take]; omega
  rw [List.set_append_right _ _ (by omega), hl, Nat.sub_self, List.set_cons_zero]
theorem isort_take {xs : List Int} {k : Nat} (h : k < xs.length) : isort (xs.take (k + 1)) = insW (fun y => decide (y ≤ gt xs (k : Int))) (gt xs (k : Int)) (isort (xs.take k)) := by
  unfold isort
  rw [take_succ_gt h, List.foldl_append]; rfl

theorem c_Sorted {h h0 : Heap} {v : Value} {b p c : Nat} {xs : List Int} {L : List HP} (H : Sep h (HP.old h0 :: L)) (hv : SlV v b p xs.length c) (hr : Rd eI 1 h0 b p xs) (hl : xs.length ≤ 4194304) :
    FnT Try.prog 88 [v] h (fun v h' => ∃ ob oc, Sep h' (rowP eI 1 3 v ob oc (isort xs) :: HP.old h0 :: L)) := by
  refine fn_enter Try.func88 rfl Try.ntmps88 rfl ?_
  refine cd_seq ?_
  refine cd_region ?_
  refine ol_y rfl rfl (y_assign rfl rfl) ?_
  refine ol_nil ?_
  refine thenX_n ?_
  refine cd_seq ?_
  refine cd_region ?_
  refine ol_y rfl rfl (y_assign rfl rfl) ?_
  refine ol_nil ?_
  refine thenX_n ?_
  refine cd_seq ?_
  refine cd_seq ?_
  refine cd_region ?_
  refine ol_y rfl rfl (y_move rfl rfl) ?_
  refine ol_y rfl rfl (y_lenV rfl Try.underlying22 rfl (by first | assumption | exact SlV.mk' _ _ _ _)) ?_
  refine ol_y rfl rfl (y_move rfl rfl) ?_
  refine ol_nil ?_
  refine thenX_n ?_
  refine cd_block ?_
  refine cd_loop (γ := Nat × Value × Nat × Nat) (fun g => [(3, g.2.1), (8, v), (9, .int .i64 xs.length), (10, .int .i64 g.1)]) (fun g h' => g.1 ≤ xs.length ∧ Sep h' (rowP eI 1 3 g.2.1 g.2.2.1 g.2.2.2 (isort (xs.take g.1)) :: HP.old h0 :: L)) (fun g => xs.length - g.1) ((0, .slice none 0 0, 0, 0)) ?_ ?_ ?_
  · (repeat (first | exact trivial | refine ⟨rfl, ?_⟩))
  · exact ⟨Nat.zero_le _, H.rowNil eI 1 3 0⟩
  · skip
    rintro ⟨k, ov, ob, oc⟩ ρ h1 ⟨hk, H⟩
    (try dsimp only)
    dsimp only at hk H
    have hrh := (H.ext 1 rfl).rd hr
    have hol : (isort (xs.take k)).length = k := by rw [(isort_perm _).length_eq, List.length_take]; omega
    have hst := fun h => isort_take (xs := xs) (k := k) h
    generalize hout : isort (xs.take k) = out at *
    have hov := H.rowV eI_ok 0 rfl
    have hor := H.rowR eI_ok 0 rfl
    refine cd_seq ?_
    refine cd_region ?_
    refine ol_y rfl rfl (y_lss rfl rfl rfl) ?_
    refine ol_nil ?_
    refine thenX_n ?_
    refine cd_seq ?_
    refine cd_cond _ rfl (fun hc0 => ?_) (fun hc0 => ?_)
    · (try replace hc0 := of_decide_eq_true hc0)
      refine cd_skip ?_
      refine thenX_n ?_
      refine cd_seq ?_
      refine cd_block ?_
      refine cd_seq ?_
      refine cd_region ?_
      refine ol_y rfl rfl (y_indexV rfl Try.underlying22 sz3 rfl (by first | assumption | exact SlV.mk' _ _ _ _) rfl (by omega) (by omega)) ?_
      refine ol_y rfl rfl (y_load rfl rfl (fun _ e => ldeq e (ld_row scl3 (by assumption) (by omega) (by omega)))) ?_
      refine ol_y rfl rfl (y_assign rfl rfl) ?_
      refine ol_nil ?_
      refine thenX_n ?_
      refine cd_seq ?_
      refine cd_region ?_
      refine ol_y rfl rfl (y_assign rfl rfl) ?_
      refine ol_nil ?_
      refine thenX_n ?_
      refine cd_seq ?_
      refine cd_block ?_
      refine cd_loop (γ := Nat) (fun q => [(3, ov), (5, .int .i64 (gt xs (k : Int))), (6, .int .i64 q), (8, v), (9, .int .i64 xs.length), (10, .int .i64 k)]) (fun q h' => h1 = h' ∧ q ≤ out.length ∧ ∀ j y, j < q → out[j]? = some y → decide (y ≤ (gt xs (k : Int))) = true) (fun q => out.length - q) (0) ?_ ?_ ?_
      · (repeat (first | exact trivial | refine ⟨rfl, ?_⟩))
      · exact ⟨rfl, Nat.zero_le _, fun j y hj => by omega⟩
      · skip
        rintro at_ ρ h2 ⟨rfl, ha, hn⟩
        (try dsimp only)
        refine cd_seq ?_
        refine cd_seq ?_
        refine cd_region ?_
        refine ol_y rfl rfl (y_move rfl rfl) ?_
        refine ol_y rfl rfl (y_move rfl rfl) ?_
        refine ol_y rfl rfl (y_lenV rfl Try.underlying22 rfl (by first | assumption | exact SlV.mk' _ _ _ _)) ?_
        refine ol_y rfl rfl (y_lss rfl rfl rfl) ?_
        refine ol_y rfl rfl (y_move rfl rfl) ?_
        refine ol_split (t := 18) rfl (fun hg3 => ?_) (fun hg3 => ?_)
        · (try have hg3_ := of_decide_eq_true hg3)
          refine ol_gy rfl rfl rfl rfl hg3 rfl (y_move rfl rfl) ?_
          refine ol_gy rfl rfl rfl rfl hg3 rfl (y_move rfl rfl) ?_
          refine ol_gy rfl rfl rfl rfl hg3 rfl (y_indexV rfl Try.underlying22 sz3 rfl (by first | assumption | exact SlV.mk' _ _ _ _) rfl (by omega) (by omega)) ?_
          refine ol_gy rfl rfl rfl rfl hg3 rfl (y_load rfl rfl (fun _ e => ldeq e (ld_row scl3 (by assumption) (by omega) (by omega)))) ?_
          refine ol_gy rfl rfl rfl rfl hg3 rfl (y_move rfl rfl) ?_
          refine ol_gy rfl rfl rfl rfl hg3 rfl (y_leq rfl rfl rfl) ?_
          refine ol_y rfl rfl (y_pick_t rfl rfl hg3 rfl) ?_
          refine ol_nil ?_
          refine thenX_n ?_
          refine cd_cond _ rfl (fun hc1 => ?_) (fun hc1 => ?_)
          · (try replace hc1 := of_decide_eq_true hc1)
            refine cd_skip ?_
            refine thenX_n ?_
            refine cd_block ?_
            refine cd_region ?_
            refine ol_y rfl rfl (y_move rfl rfl) ?_
            refine ol_y rfl rfl (y_addi rfl rfl rfl (in64 (by omega) (by omega))) ?_
            refine ol_y rfl rfl (y_assign rfl rfl) ?_
            refine ol_nil ?_
            refine blockX_n ?_
            refine thenX_n ?_
            refine ⟨at_ + 1, ⟨rfl, rfl, vint (by simp), rfl, rfl, rfl, trivial⟩, ⟨rfl, by omega, fun j y hj hy => ?_⟩, by omega⟩
            rcases Nat.lt_or_ge j at_ with hlt | hge
            · exact hn j y hlt hy
            · obtain rfl : j = at_ := by omega
              have := gt_get (xs := out) (i := (j : Int)) (by omega) (by omega)
              rw [Int.toNat_natCast, hy] at this
              rw [Option.some.inj this]
              exact decide_eq_true hc1
          · (try replace hc1 := of_decide_eq_false hc1)
            have hx : ∀ y, out[at_]? = some y → decide (y ≤ gt xs (k : Int)) = false := fun y hy => by
              have := gt_get (xs := out) (i := (at_ : Int)) (by omega) (by omega)
              rw [Int.toNat_natCast, hy] at this
              rw [Option.some.inj this]
              exact decide_eq_false hc1
            refine cd_exit ?_
            refine thenX_e ?_
            refine thenX_e ?_
            refine blockX_hit ?_
            refine thenX_n ?_
            refine cd_seq ?_
            refine cd_region ?_
            refine ol_y rfl rfl (y_move rfl rfl) ?_
            refine ol_x rfl rfl (x_buildSlice (cs := [_]) rfl Try.underlying22 info3 rfl rfl rfl rfl H) ?_
            clear H
            rintro _ h4 ⟨rfl, hz_b, H⟩
            replace H := Sep.rowBlk (enc := eI) (xs := [(0 : Int)]) eI_ok rfl (one_maxLen _) H
            have hv8_2 := H.rowV eI_ok 0 rfl
            have hr8_2 := H.rowR eI_ok 0 rfl
            replace H := H.drop
            have HF := H.front 0
            dsimp only [nthP, eraseP] at HF
            refine ol_x rfl rfl (x_append (enc := eI) rfl Try.underlying22 info3 rfl (by decide) eI_ok rfl rfl hv8_2 hr8_2 rfl (by simp only [List.length_cons, List.length_nil, maxLen]; omega) (by simp only [List.length_cons, List.length_nil, maxLen]; omega) HF) ?_
            clear H HF hv8_2 hr8_2
            rintro ov2 h5 ⟨hz_, ob2, oc2, H⟩
            replace H := H.ins 0
            dsimp only [insP] at H
            have hov2 := H.rowV eI_ok 0 rfl
            refine ol_y rfl rfl (y_assign rfl rfl) ?_
            have hl2 : (out ++ [(0 : Int)]).length = out.length + 1 := by simp
            refine ol_nil ?_
            refine thenX_n ?_
            refine cd_seq ?_
            refine cd_seq ?_
            refine cd_region ?_
            refine ol_y rfl rfl (y_move rfl rfl) ?_
            refine ol_y rfl rfl (y_lenV rfl Try.underlying22 rfl (by first | assumption | exact SlV.mk' _ _ _ _)) ?_
            refine ol_y rfl rfl ((y_subi rfl rfl rfl (in64 (by omega) (by omega))).eq (vint (show _ = ((out.length : Nat) : Int) by simp))) ?_
            refine ol_y rfl rfl (y_assign rfl rfl) ?_
            refine ol_nil ?_
            refine thenX_n ?_
            refine cd_block ?_
            refine cd_loop (γ := Nat × Int) (fun g => [(3, ov2), (5, .int .i64 (gt xs (k : Int))), (6, .int .i64 at_), (7, .int .i64 g.1), (8, v), (9, .int .i64 xs.length), (10, .int .i64 k)]) (fun g h' => at_ ≤ g.1 ∧ g.1 ≤ out.length ∧ Sep h' (rowP eI 1 3 ov2 ob2 oc2 (out.take g.1 ++ g.2 :: out.drop g.1) :: HP.old h0 :: L)) (fun g => g.1) ((out.length, 0)) ?_ ?_ ?_
            · (repeat (first | exact trivial | refine ⟨rfl, ?_⟩))
            · refine ⟨ha, Nat.le_refl _, ?_⟩
              (try dsimp only)
              rw [List.take_length, List.drop_length]
              exact H
            · skip
              rintro ⟨i, w⟩ ρ h6 ⟨hai, hi2, H⟩
              (try dsimp only)
              dsimp only at hai hi2 H
              have hlen : (out.take i ++ w :: out.drop i).length = out.length + 1 := by simp; omega
              have hov2 := H.rowV eI_ok 0 rfl
              have hor2 := H.rowR eI_ok 0 rfl
              refine cd_seq ?_
              refine cd_seq ?_
              refine cd_region ?_
              refine ol_y rfl rfl (y_move rfl rfl) ?_
              refine ol_y rfl rfl (y_move rfl rfl) ?_
              refine ol_y rfl rfl (y_gtr rfl rfl rfl) ?_
              refine ol_nil ?_
              refine thenX_n ?_
              refine cd_cond _ rfl (fun hc2 => ?_) (fun hc2 => ?_)
              · (try replace hc2 := of_decide_eq_true hc2)
                refine cd_skip ?_
                refine thenX_n ?_
                refine cd_seq ?_
                refine cd_block ?_
                refine cd_region ?_
                refine ol_y rfl rfl (y_move rfl rfl) ?_
                refine ol_y rfl rfl (y_move rfl rfl) ?_
                refine ol_y rfl rfl (y_move rfl rfl) ?_
                refine ol_y rfl rfl (y_move rfl rfl) ?_
                refine ol_y rfl rfl ((y_subi rfl rfl rfl (in64 (by omega) (by omega))).eq (vint (show _ = ((i - 1 : Nat) : Int) by omega))) ?_
                refine ol_y rfl rfl (y_indexV rfl Try.underlying22 sz3 rfl (by first | assumption | exact SlV.mk' _ _ _ _) rfl (by omega) (by omega)) ?_
                refine ol_y rfl rfl (y_load rfl rfl (fun _ e => ldeq e (ld_row scl3 (by assumption) (by omega) (by omega)))) ?_
                refine ol_y rfl rfl (y_indexV rfl Try.underlying22 sz3 rfl (by first | assumption | exact SlV.mk' _ _ _ _) rfl (by omega) (by omega)) ?_
                refine ol_x rfl rfl (x_setRow (f := Value.int .i64) (i := (i : Int)) rfl rfl rfl sz3 (fun _ => ⟨rfl, rfl⟩) (by omega) (by omega) H) ?_
                clear H
                rintro _ h7 ⟨rfl, hz128, H⟩
                refine ol_nil ?_
                refine blockX_n ?_
                refine thenX_n ?_
                refine cd_region ?_
                refine ol_y rfl rfl (y_move rfl rfl) ?_
                refine ol_y rfl rfl ((y_subi rfl rfl rfl (in64 (by omega) (by omega))).eq (vint (show _ = ((i - 1 : Nat) : Int) by omega))) ?_
                refine ol_y rfl rfl (y_assign rfl rfl) ?_
                refine ol_nil ?_
                refine thenX_n ?_
                rw [Int.toNat_natCast, shift_set (by omega) hi2] at H
                exact ⟨(i - 1, gt out ((i - 1 : Nat) : Int)), ⟨rfl, rfl, rfl, rfl, rfl, rfl, rfl, trivial⟩, ⟨by (try dsimp only); omega, by (try dsimp only); omega, H⟩, by (try dsimp only); omega⟩
              · (try replace hc2 := of_decide_eq_false hc2)
                refine cd_exit ?_
                refine thenX_e ?_
                refine thenX_e ?_
                refine blockX_hit ?_
                refine thenX_n ?_
                refine cd_region ?_
                refine ol_y rfl rfl (y_move rfl rfl) ?_
                refine ol_y rfl rfl (y_move rfl rfl) ?_
                refine ol_y rfl rfl (y_move rfl rfl) ?_
                refine ol_y rfl rfl (y_indexV rfl Try.underlying22 sz3 rfl (by first | assumption | exact SlV.mk' _ _ _ _) rfl (by omega) (by omega)) ?_
                refine ol_x rfl rfl (x_setRow (f := Value.int .i64) (i := (at_ : Int)) rfl rfl rfl sz3 (fun _ => ⟨rfl, rfl⟩) (by omega) (by omega) H) ?_
                clear H
                rintro _ h8 ⟨rfl, hz134, H⟩
                refine ol_nil ?_
                refine blockX_n ?_
                refine thenX_n ?_
                refine cd_region ?_
                refine ol_y rfl rfl (y_addi rfl rfl rfl (in64 (by omega) (by omega))) ?_
                refine ol_y rfl rfl (y_move rfl rfl) ?_
                refine ol_nil ?_
                refine thenX_n ?_
                rw [Int.toNat_natCast] at H
                have hia : i = at_ := by omega
                subst hia
                rw [last_set hi2] at H
                have hw := while_at (fun y => decide (y ≤ gt xs (k : Int))) out i (by omega) (fun j y hj hy => hn j y hj hy) hx
                refine ⟨(k + 1, ov2, ob2, oc2), ⟨rfl, rfl, rfl, vint (by simp), trivial⟩, ⟨by (try dsimp only); omega, ?_⟩, by (try dsimp only); omega⟩
                (try dsimp only)
                rw [hst (by omega)]
                unfold insW
                rw [hw.1, hw.2]
                exact H
        · (try have hg3_ := of_decide_eq_false hg3)
          have hx : ∀ y, out[at_]? = some y → decide (y ≤ gt xs (k : Int)) = false := fun y hy => by have := (List.getElem?_eq_some_iff.1 hy).1; omega
          refine ol_gn rfl rfl rfl rfl hg3 rfl ?_
          refine ol_gn rfl rfl rfl rfl hg3 rfl ?_
          refine ol_gn rfl rfl rfl rfl hg3 rfl ?_
          refine ol_gn rfl rfl rfl rfl hg3 rfl ?_
          refine ol_gn rfl rfl rfl rfl hg3 rfl ?_
          refine ol_gn rfl rfl rfl rfl hg3 rfl ?_
          refine ol_y rfl rfl (y_pick_f rfl rfl hg3 rfl) ?_
          refine ol_nil ?_
          refine thenX_n ?_
          refine cd_false rfl rfl ?_
          refine cd_exit ?_
          refine thenX_e ?_
          refine thenX_e ?_
          refine blockX_hit ?_
          refine thenX_n ?_
          refine cd_seq ?_
          refine cd_region ?_
          refine ol_y rfl rfl (y_move rfl rfl) ?_
          refine ol_x rfl rfl (x_buildSlice (cs := [_]) rfl Try.underlying22 info3 rfl rfl rfl rfl H) ?_
          clear H
          rintro _ h9 ⟨rfl, hz_b, H⟩
          replace H := Sep.rowBlk (enc := eI) (xs := [(0 : Int)]) eI_ok rfl (one_maxLen _) H
          have hv8_2 := H.rowV eI_ok 0 rfl
          have hr8_2 := H.rowR eI_ok 0 rfl
          replace H := H.drop
          have HF := H.front 0
          dsimp only [nthP, eraseP] at HF
          refine ol_x rfl rfl (x_append (enc := eI) rfl Try.underlying22 info3 rfl (by decide) eI_ok rfl rfl hv8_2 hr8_2 rfl (by simp only [List.length_cons, List.length_nil, maxLen]; omega) (by simp only [List.length_cons, List.length_nil, maxLen]; omega) HF) ?_
          clear H HF hv8_2 hr8_2
          rintro ov2 h10 ⟨hz_, ob2, oc2, H⟩
          replace H := H.ins 0
          dsimp only [insP] at H
          have hov2 := H.rowV eI_ok 0 rfl
          refine ol_y rfl rfl (y_assign rfl rfl) ?_
          have hl2 : (out ++ [(0 : Int)]).length = out.length + 1 := by simp
          refine ol_nil ?_
          refine thenX_n ?_
          refine cd_seq ?_
          refine cd_seq ?_
          refine cd_region ?_
          refine ol_y rfl rfl (y_move rfl rfl) ?_
          refine ol_y rfl rfl (y_lenV rfl Try.underlying22 rfl (by first | assumption | exact SlV.mk' _ _ _ _)) ?_
          refine ol_y rfl rfl ((y_subi rfl rfl rfl (in64 (by omega) (by omega))).eq (vint (show _ = ((out.length : Nat) : Int) by simp))) ?_
          refine ol_y rfl rfl (y_assign rfl rfl) ?_
          refine ol_nil ?_
          refine thenX_n ?_
          refine cd_block ?_
          refine cd_loop (γ := Nat × Int) (fun g => [(3, ov2), (5, .int .i64 (gt xs (k : Int))), (6, .int .i64 at_), (7, .int .i64 g.1), (8, v), (9, .int .i64 xs.length), (10, .int .i64 k)]) (fun g h' => at_ ≤ g.1 ∧ g.1 ≤ out.length ∧ Sep h' (rowP eI 1 3 ov2 ob2 oc2 (out.take g.1 ++ g.2 :: out.drop g.1) :: HP.old h0 :: L)) (fun g => g.1) ((out.length, 0)) ?_ ?_ ?_
          · (repeat (first | exact trivial | refine ⟨rfl, ?_⟩))
          · refine ⟨ha, Nat.le_refl _, ?_⟩
            (try dsimp only)
            rw [List.take_length, List.drop_length]
            exact H
          · skip
            rintro ⟨i, w⟩ ρ h11 ⟨hai, hi2, H⟩
            (try dsimp only)
            dsimp only at hai hi2 H
            have hlen : (out.take i ++ w :: out.drop i).length = out.length + 1 := by simp; omega
            have hov2 := H.rowV eI_ok 0 rfl
            have hor2 := H.rowR eI_ok 0 rfl
            refine cd_seq ?_
            refine cd_seq ?_
            refine cd_region ?_
            refine ol_y rfl rfl (y_move rfl rfl) ?_
            refine ol_y rfl rfl (y_move rfl rfl) ?_
            refine ol_y rfl rfl (y_gtr rfl rfl rfl) ?_
            refine ol_nil ?_
            refine thenX_n ?_
            refine cd_cond _ rfl (fun hc2 => ?_) (fun hc2 => ?_)
            · (try replace hc2 := of_decide_eq_true hc2)
              refine cd_skip ?_
              refine thenX_n ?_
              refine cd_seq ?_
              refine cd_block ?_
              refine cd_region ?_
              refine ol_y rfl rfl (y_move rfl rfl) ?_
              refine ol_y rfl rfl (y_move rfl rfl) ?_
              refine ol_y rfl rfl (y_move rfl rfl) ?_
              refine ol_y rfl rfl (y_move rfl rfl) ?_
              refine ol_y rfl rfl ((y_subi rfl rfl rfl (in64 (by omega) (by omega))).eq (vint (show _ = ((i - 1 : Nat) : Int) by omega))) ?_
              refine ol_y rfl rfl (y_indexV rfl Try.underlying22 sz3 rfl (by first | assumption | exact SlV.mk' _ _ _ _) rfl (by omega) (by omega)) ?_
              refine ol_y rfl rfl (y_load rfl rfl (fun _ e => ldeq e (ld_row scl3 (by assumption) (by omega) (by omega)))) ?_
              refine ol_y rfl rfl (y_indexV rfl Try.underlying22 sz3 rfl (by first | assumption | exact SlV.mk' _ _ _ _) rfl (by omega) (by omega)) ?_
              refine ol_x rfl rfl (x_setRow (f := Value.int .i64) (i := (i : Int)) rfl rfl rfl sz3 (fun _ => ⟨rfl, rfl⟩) (by omega) (by omega) H) ?_
              clear H
              rintro _ h12 ⟨rfl, hz128, H⟩
              refine ol_nil ?_
              refine blockX_n ?_
              refine thenX_n ?_
              refine cd_region ?_
              refine ol_y rfl rfl (y_move rfl rfl) ?_
              refine ol_y rfl rfl ((y_subi rfl rfl rfl (in64 (by omega) (by omega))).eq (vint (show _ = ((i - 1 : Nat) : Int) by omega))) ?_
              refine ol_y rfl rfl (y_assign rfl rfl) ?_
              refine ol_nil ?_
              refine thenX_n ?_
              rw [Int.toNat_natCast, shift_set (by omega) hi2] at H
              exact ⟨(i - 1, gt out ((i - 1 : Nat) : Int)), ⟨rfl, rfl, rfl, rfl, rfl, rfl, rfl, trivial⟩, ⟨by (try dsimp only); omega, by (try dsimp only); omega, H⟩, by (try dsimp only); omega⟩
            · (try replace hc2 := of_decide_eq_false hc2)
              refine cd_exit ?_
              refine thenX_e ?_
              refine thenX_e ?_
              refine blockX_hit ?_
              refine thenX_n ?_
              refine cd_region ?_
              refine ol_y rfl rfl (y_move rfl rfl) ?_
              refine ol_y rfl rfl (y_move rfl rfl) ?_
              refine ol_y rfl rfl (y_move rfl rfl) ?_
              refine ol_y rfl rfl (y_indexV rfl Try.underlying22 sz3 rfl (by first | assumption | exact SlV.mk' _ _ _ _) rfl (by omega) (by omega)) ?_
              refine ol_x rfl rfl (x_setRow (f := Value.int .i64) (i := (at_ : Int)) rfl rfl rfl sz3 (fun _ => ⟨rfl, rfl⟩) (by omega) (by omega) H) ?_
              clear H
              rintro _ h13 ⟨rfl, hz134, H⟩
              refine ol_nil ?_
              refine blockX_n ?_
              refine thenX_n ?_
              refine cd_region ?_
              refine ol_y rfl rfl (y_addi rfl rfl rfl (in64 (by omega) (by omega))) ?_
              refine ol_y rfl rfl (y_move rfl rfl) ?_
              refine ol_nil ?_
              refine thenX_n ?_
              rw [Int.toNat_natCast] at H
              have hia : i = at_ := by omega
              subst hia
              rw [last_set hi2] at H
              have hw := while_at (fun y => decide (y ≤ gt xs (k : Int))) out i (by omega) (fun j y hj hy => hn j y hj hy) hx
              refine ⟨(k + 1, ov2, ob2, oc2), ⟨rfl, rfl, rfl, vint (by simp), trivial⟩, ⟨by (try dsimp only); omega, ?_⟩, by (try dsimp only); omega⟩
              (try dsimp only)
              rw [hst (by omega)]
              unfold insW
              rw [hw.1, hw.2]
              exact H
    · (try replace hc0 := of_decide_eq_false hc0)
      refine cd_exit ?_
      refine thenX_e ?_
      refine thenX_e ?_
      refine blockX_hit ?_
      refine thenX_n ?_
      refine cd_seq ?_
      refine cd_region ?_
      refine ol_y rfl rfl (y_move rfl rfl) ?_
      refine ol_y rfl rfl (y_assign rfl rfl) ?_
      refine ol_nil ?_
      refine thenX_n ?_
      refine cd_ret ?_
      refine ret1 Try.results88 rfl ?_
      have ek : k = xs.length := by omega
      subst ek
      rw [← hout, List.take_length] at H
      exact ⟨ob, oc, H⟩


end Go.X
