/- Ranked: printed walk. -/
import Derived.Test.YtclbncbolhmolaaC15
namespace Go.X
open Go Go.Proofs
set_option linter.unusedVariables false
set_option linter.unusedSimpArgs false
attribute [local irreducible] rowP HP.obj HP.old
theorem pairsL_len (xs : List Int) : (pairsL xs).length ≤ xs.length := by
  have := foldP_len (isort xs) []
  have h2 : (isort xs).length = xs.length := (isort_perm xs).length_eq
  unfold pairsL
  simp only [List.length_nil] at this
  omega
def rkI (ps : List Pr) : List Pr := ps.foldl (fun out p => insW (fun o => decide (p.2 ≤ o.2)) p out) []
theorem rkI_take {ps : List Pr} {k : Nat} (h : k < ps.length) : rkI (ps.take (k + 1)) = insW (fun o => decide ((gt ps (k : Int)).2 ≤ o.2)) (gt ps (k : Int)) (rkI (ps.take k)) := by
  unfold rkI
  have e : ps.take (k + 1) = ps.take k ++ [gt ps (k : Int)] := by
    have := gt_get (xs := ps) (i := (k : Int)) (by omega) (by omega)
    rw [Int.toNat_natCast] at this
    rw [List.take_add_one, this]; rfl
  rw [e, List.foldl_append]; rfl
theorem rkI_len : ∀ (ps out : List Pr), (ps.foldl (fun out p => insW (fun o => decide (p.2 ≤ o.2)) p out) out).length = out.length + ps.length
  | [], out => by simp
  | p :: ps, out => by
    rw [List.foldl_cons, rkI_len ps, (insW_perm _ p out).length_eq]
    simp only [List.length_cons]; omega

theorem c_Ranked {h h0 : Heap} {v : Value} {b p c : Nat} {xs : List Int} {L : List HP} (H : Sep h (HP.old h0 :: L)) (hv : SlV v b p xs.length c) (hr : Rd eI 1 h0 b p xs) (hl : xs.length ≤ 4194304) :
    FnT Try.prog 18 [v] h (fun v h' => ∃ ob oc, Sep h' (rowP ePr 2 41 v ob oc (rankedL xs) :: HP.old h0 :: L)) := by
  refine fn_enter Try.func18 rfl Try.ntmps18 rfl ?_
  refine cd_seq ?_
  refine cd_region ?_
  refine ol_y rfl rfl (y_assign rfl rfl) ?_
  refine ol_nil ?_
  refine thenX_n ?_
  refine cd_seq ?_
  refine cd_region ?_
  refine ol_y rfl rfl (y_assign rfl rfl) ?_
  refine ol_nil ?_
  refine thenX_n ?_
  refine cd_seq ?_
  refine cd_seq ?_
  refine cd_region ?_
  refine ol_y rfl rfl (y_move rfl rfl) ?_
  refine ol_x rfl rfl (x_call rfl go53 rfl (c_Pairs H hv hr hl)) ?_
  clear H
  rintro pv h2 ⟨pb_, pc, H⟩
  have hpl := pairsL_len xs
  generalize hps : pairsL xs = ps at *
  have hpv := H.rowV ePr_ok 0 rfl
  refine ol_y rfl rfl (y_lenV rfl Try.underlying30 rfl (by first | assumption | exact SlV.mk' _ _ _ _)) ?_
  refine ol_y rfl rfl (y_move rfl rfl) ?_
  refine ol_nil ?_
  refine thenX_n ?_
  refine cd_block ?_
  refine cd_loop (γ := Nat × Value × Nat × Nat) (fun g => [(3, g.2.1), (9, pv), (10, .int .i64 ps.length), (11, .int .i64 g.1)]) (fun g h' => g.1 ≤ ps.length ∧ Sep h' (rowP ePr 2 41 g.2.1 g.2.2.1 g.2.2.2 (rkI (ps.take g.1)) :: rowP ePr 2 41 pv pb_ pc ps :: HP.old h0 :: L)) (fun g => ps.length - g.1) ((0, .slice none 0 0, 0, 0)) ?_ ?_ ?_
  · (repeat (first | exact trivial | refine ⟨rfl, ?_⟩))
  · exact ⟨Nat.zero_le _, H.rowNil ePr 2 41 0⟩
  · skip
    rintro ⟨k, ov, ob, oc⟩ ρ h3 ⟨hk, H⟩
    (try dsimp only)
    dsimp only at hk H
    have hol : (rkI (ps.take k)).length = k := by unfold rkI; rw [rkI_len, List.length_take, List.length_nil]; omega
    have hst := fun h => rkI_take (ps := ps) (k := k) h
    generalize hout : rkI (ps.take k) = out at *
    have hpr := H.rowR ePr_ok 1 rfl
    refine cd_seq ?_
    refine cd_region ?_
    refine ol_y rfl rfl (y_lss rfl rfl rfl) ?_
    refine ol_nil ?_
    refine thenX_n ?_
    refine cd_seq ?_
    refine cd_cond _ rfl (fun hc0 => ?_) (fun hc0 => ?_)
    · (try replace hc0 := of_decide_eq_true hc0)
      refine cd_skip ?_
      refine thenX_n ?_
      refine cd_seq ?_
      refine cd_block ?_
      refine cd_seq ?_
      refine cd_region ?_
      refine ol_y rfl rfl (y_indexV rfl Try.underlying30 sz41 rfl (by first | assumption | exact SlV.mk' _ _ _ _) rfl (by omega) (by omega)) ?_
      refine ol_y rfl rfl (y_load rfl rfl (fun _ e => ldeq e (ld_rowN agg41 ePr_ok (by assumption) (by omega) (by omega) rfl))) ?_
      refine ol_x rfl rfl (x_alloc rfl zero41 H) ?_
      clear H
      rintro v5 h4 ⟨hv5, hz42, H⟩
      obtain ⟨pb, hpb⟩ : ∃ pb, h3.size = pb := ⟨_, rfl⟩
      rw [hpb] at hv5 H
      subst hv5
      refine ol_x rfl rfl (by first | exact x_storeW rfl rfl rfl rfl sz41 rfl H 0 rfl rfl rfl | exact x_storeW rfl rfl rfl rfl sz41 rfl H 1 rfl rfl rfl | exact x_storeW rfl rfl rfl rfl sz41 rfl H 2 rfl rfl rfl | exact x_storeW rfl rfl rfl rfl sz41 rfl H 3 rfl rfl rfl | exact x_storeW rfl rfl rfl rfl sz41 rfl H 4 rfl rfl rfl | exact x_storeW rfl rfl rfl rfl sz41 rfl H 5 rfl rfl rfl) ?_
      clear H
      rintro _ h6 ⟨rfl, hz5, H⟩
      dsimp only [setP, List.set] at H
      have hpb5 := H.obj 0 rfl
      have hov := H.rowV ePr_ok 1 rfl
      have hor := H.rowR ePr_ok 1 rfl
      refine ol_nil ?_
      refine thenX_n ?_
      refine cd_seq ?_
      refine cd_region ?_
      refine ol_y rfl rfl (y_assign rfl rfl) ?_
      refine ol_nil ?_
      refine thenX_n ?_
      refine cd_seq ?_
      refine cd_block ?_
      refine cd_loop (γ := Nat) (fun q => [(3, ov), (6, .int .i64 q), (5, .pointer (some ⟨pb, 0, none⟩)), (9, pv), (10, .int .i64 ps.length), (11, .int .i64 k)]) (fun q h' => h6 = h' ∧ q ≤ out.length ∧ ∀ j y, j < q → out[j]? = some y → decide ((gt ps (k : Int)).2 ≤ y.2) = true) (fun q => out.length - q) (0) ?_ ?_ ?_
      · (repeat (first | exact trivial | refine ⟨rfl, ?_⟩))
      · exact ⟨rfl, Nat.zero_le _, fun j y hj => by omega⟩
      · skip
        rintro at_ ρ h7 ⟨rfl, ha, hn⟩
        (try dsimp only)
        refine cd_seq ?_
        refine cd_seq ?_
        refine cd_draw (none) (fun x => x = h6) [(0, 0), (1, 0), (2, 0), (3, 0), (4, 0), (5, 0), (6, 0), (7, 0), (8, 0), (9, 1), (10, 0), (11, 1), (12, 0), (13, 0)] mixed (by kernel_rfl) (by kernel_rfl) (by kernel_rfl) ?_ ?_
        · exact rfl
        refine hs_p rfl rfl rfl (y_move rfl rfl) ?_
        refine hs_p rfl rfl rfl (y_move rfl rfl) ?_
        refine hs_p rfl rfl rfl (y_lenV rfl Try.underlying30 rfl (by first | assumption | exact SlV.mk' _ _ _ _)) ?_
        refine hs_p rfl rfl rfl (y_lss rfl rfl rfl) ?_
        refine hs_p rfl rfl rfl (y_move rfl rfl) ?_
        refine hs_split (t := 19) rfl (fun hg8 => ?_) (fun hg8 => ?_)
        · (try have hg8_ := of_decide_eq_true hg8)
          refine hs_gp rfl rfl rfl rfl rfl hg8 rfl (y_move rfl rfl) ?_
          refine hs_gp rfl rfl rfl rfl rfl hg8 rfl (y_move rfl rfl) ?_
          refine hs_gp rfl rfl rfl rfl rfl hg8 rfl (y_indexV rfl Try.underlying30 sz41 rfl (by first | assumption | exact SlV.mk' _ _ _ _) rfl (by omega) (by omega)) ?_
          refine hs_gp rfl rfl rfl rfl rfl hg8 rfl (y_fieldAddr rfl fo41_1 rfl) ?_
          refine hs_gy rfl rfl rfl rfl rfl hg8 rfl (y_load rfl rfl (fun _ e => ldeq e (ld_rowf scl3 (by assumption) (by omega) (by omega) rfl))) ?_
          refine hs_gp rfl rfl rfl rfl rfl hg8 rfl (y_fieldAddr rfl fo41_1 rfl) ?_
          refine hs_gy rfl rfl rfl rfl rfl hg8 rfl (y_load rfl rfl (fun _ e => ldeq e (ld1 scl3 (cellH_blk (by assumption) rfl)))) ?_
          refine hs_gp rfl rfl rfl rfl rfl hg8 rfl (y_geq rfl rfl rfl) ?_
          refine hs_p rfl rfl rfl (y_pick_t rfl rfl hg8 rfl) ?_
          refine hs_nil ?_
          refine thenX_n ?_
          refine cd_cond _ rfl (fun hc1 => ?_) (fun hc1 => ?_)
          · (try replace hc1 := of_decide_eq_true hc1)
            refine cd_skip ?_
            refine thenX_n ?_
            refine cd_block ?_
            refine cd_region ?_
            refine ol_y rfl rfl (y_move rfl rfl) ?_
            refine ol_y rfl rfl (y_addi rfl rfl rfl (in64 (by omega) (by omega))) ?_
            refine ol_y rfl rfl (y_assign rfl rfl) ?_
            refine ol_nil ?_
            refine blockX_n ?_
            refine thenX_n ?_
            refine ⟨at_ + 1, ⟨rfl, vint (by simp), rfl, rfl, rfl, rfl, trivial⟩, ⟨rfl, by omega, fun j y hj hy => ?_⟩, by omega⟩
            rcases Nat.lt_or_ge j at_ with hlt | hge
            · exact hn j y hlt hy
            · obtain rfl : j = at_ := by omega
              have := gt_get (xs := out) (i := (j : Int)) (by omega) (by omega)
              rw [Int.toNat_natCast, hy] at this
              rw [Option.some.inj this]
              exact decide_eq_true hc1
          · (try replace hc1 := of_decide_eq_false hc1)
            have hx : ∀ y, out[at_]? = some y → decide ((gt ps (k : Int)).2 ≤ y.2) = false := fun y hy => by
              have := gt_get (xs := out) (i := (at_ : Int)) (by omega) (by omega)
              rw [Int.toNat_natCast, hy] at this
              rw [Option.some.inj this]
              exact decide_eq_false hc1
            refine cd_exit ?_
            refine thenX_e ?_
            refine thenX_e ?_
            refine blockX_hit ?_
            refine thenX_n ?_
            refine cd_seq ?_
            refine cd_region ?_
            refine ol_y rfl rfl (y_move rfl rfl) ?_
            refine ol_y rfl rfl (y_build (cs := [_, _]) rfl pl41 zero41 rfl) ?_
            refine ol_x rfl rfl (x_buildSlice (cs := [_, _]) rfl Try.underlying30 info41 rfl rfl rfl rfl H) ?_
            clear H
            rintro _ h9 ⟨rfl, hz_b, H⟩
            replace H := Sep.rowBlk (enc := ePr) (xs := [((0 : Int), (0 : Int))]) ePr_ok rfl (one_maxLen _) H
            have hv8_3 := H.rowV ePr_ok 0 rfl
            have hr8_3 := H.rowR ePr_ok 0 rfl
            replace H := H.drop
            have HF := H.front 1
            dsimp only [nthP, eraseP] at HF
            refine ol_x rfl rfl (x_append (enc := ePr) rfl Try.underlying30 info41 rfl (by decide) ePr_ok rfl rfl hv8_3 hr8_3 rfl (by simp only [List.length_cons, List.length_nil, maxLen]; omega) (by simp only [List.length_cons, List.length_nil, maxLen]; omega) HF) ?_
            clear H HF hv8_3 hr8_3
            rintro ov2 h10 ⟨hz_, ob2, oc2, H⟩
            replace H := H.ins 1
            dsimp only [insP] at H
            have hov2 := H.rowV ePr_ok 1 rfl
            refine ol_y rfl rfl (y_assign rfl rfl) ?_
            have hl2 : (out ++ [((0 : Int), (0 : Int))]).length = out.length + 1 := by simp
            refine ol_nil ?_
            refine thenX_n ?_
            refine cd_seq ?_
            refine cd_seq ?_
            refine cd_region ?_
            refine ol_y rfl rfl (y_move rfl rfl) ?_
            refine ol_y rfl rfl (y_lenV rfl Try.underlying30 rfl (by first | assumption | exact SlV.mk' _ _ _ _)) ?_
            refine ol_y rfl rfl ((y_subi rfl rfl rfl (in64 (by omega) (by omega))).eq (vint (show _ = ((out.length : Nat) : Int) by simp))) ?_
            refine ol_y rfl rfl (y_assign rfl rfl) ?_
            refine ol_nil ?_
            refine thenX_n ?_
            refine cd_block ?_
            refine cd_loop (γ := Nat × Pr) (fun g => [(3, ov2), (6, .int .i64 at_), (7, .int .i64 g.1), (5, .pointer (some ⟨pb, 0, none⟩)), (9, pv), (10, .int .i64 ps.length), (11, .int .i64 k)]) (fun g h' => at_ ≤ g.1 ∧ g.1 ≤ out.length ∧ Sep h' (blk pb (ePr (gt ps (k : Int))) 41 :: rowP ePr 2 41 ov2 ob2 oc2 (out.take g.1 ++ g.2 :: out.drop g.1) :: rowP ePr 2 41 pv pb_ pc ps :: HP.old h0 :: L)) (fun g => g.1) ((out.length, (0, 0))) ?_ ?_ ?_
            · (repeat (first | exact trivial | refine ⟨rfl, ?_⟩))
            · refine ⟨ha, Nat.le_refl _, ?_⟩
              (try dsimp only)
              rw [List.take_length, List.drop_length]
              exact H
            · skip
              rintro ⟨i, w⟩ ρ h11 ⟨hai, hi2, H⟩
              (try dsimp only)
              dsimp only at hai hi2 H
              have hlen : (out.take i ++ w :: out.drop i).length = out.length + 1 := by simp; omega
              have hov2 := H.rowV ePr_ok 1 rfl
              have hor2 := H.rowR ePr_ok 1 rfl
              have hpb5 := H.obj 0 rfl
              refine cd_seq ?_
              refine cd_seq ?_
              refine cd_region ?_
              refine ol_y rfl rfl (y_move rfl rfl) ?_
              refine ol_y rfl rfl (y_move rfl rfl) ?_
              refine ol_y rfl rfl (y_gtr rfl rfl rfl) ?_
              refine ol_nil ?_
              refine thenX_n ?_
              refine cd_cond _ rfl (fun hc2 => ?_) (fun hc2 => ?_)
              · (try replace hc2 := of_decide_eq_true hc2)
                refine cd_skip ?_
                refine thenX_n ?_
                refine cd_seq ?_
                refine cd_block ?_
                refine cd_region ?_
                refine ol_y rfl rfl (y_move rfl rfl) ?_
                refine ol_y rfl rfl (y_move rfl rfl) ?_
                refine ol_y rfl rfl (y_move rfl rfl) ?_
                refine ol_y rfl rfl (y_move rfl rfl) ?_
                refine ol_y rfl rfl ((y_subi rfl rfl rfl (in64 (by omega) (by omega))).eq (vint (show _ = ((i - 1 : Nat) : Int) by omega))) ?_
                refine ol_y rfl rfl (y_indexV rfl Try.underlying30 sz41 rfl (by first | assumption | exact SlV.mk' _ _ _ _) rfl (by omega) (by omega)) ?_
                refine ol_y rfl rfl (y_load rfl rfl (fun _ e => ldeq e (ld_rowN agg41 ePr_ok (by assumption) (by omega) (by omega) rfl))) ?_
                refine ol_y rfl rfl (y_indexV rfl Try.underlying30 sz41 rfl (by first | assumption | exact SlV.mk' _ _ _ _) rfl (by omega) (by omega)) ?_
                have HF := H.front 1
                dsimp only [nthP, eraseP] at HF
                refine ol_x rfl rfl (x_setRowN (enc := ePr) (i := (i : Int)) rfl rfl rfl sz41 ePr_ok (by omega) (by omega) HF) ?_
                clear H HF
                rintro _ h12 ⟨rfl, hz128, H⟩
                replace H := H.ins 1
                dsimp only [insP] at H
                refine ol_nil ?_
                refine blockX_n ?_
                refine thenX_n ?_
                refine cd_region ?_
                refine ol_y rfl rfl (y_move rfl rfl) ?_
                refine ol_y rfl rfl ((y_subi rfl rfl rfl (in64 (by omega) (by omega))).eq (vint (show _ = ((i - 1 : Nat) : Int) by omega))) ?_
                refine ol_y rfl rfl (y_assign rfl rfl) ?_
                refine ol_nil ?_
                refine thenX_n ?_
                rw [Int.toNat_natCast, shift_set (by omega) hi2] at H
                exact ⟨(i - 1, gt out ((i - 1 : Nat) : Int)), ⟨rfl, rfl, rfl, rfl, rfl, rfl, rfl, trivial⟩, ⟨by (try dsimp only); omega, by (try dsimp only); omega, H⟩, by (try dsimp only); omega⟩
              · (try replace hc2 := of_decide_eq_false hc2)
                refine cd_exit ?_
                refine thenX_e ?_
                refine thenX_e ?_
                refine blockX_hit ?_
                refine thenX_n ?_
                refine cd_region ?_
                refine ol_y rfl rfl (y_move rfl rfl) ?_
                refine ol_y rfl rfl (y_move rfl rfl) ?_
                refine ol_y rfl rfl (y_load rfl rfl (fun _ e => ldeq e (ldBlk agg41 (by assumption) rfl))) ?_
                refine ol_y rfl rfl (y_indexV rfl Try.underlying30 sz41 rfl (by first | assumption | exact SlV.mk' _ _ _ _) rfl (by omega) (by omega)) ?_
                have HF := H.front 1
                dsimp only [nthP, eraseP] at HF
                refine ol_x rfl rfl (x_setRowN (enc := ePr) (i := (at_ : Int)) (y' := gt ps (k : Int)) rfl rfl rfl sz41 ePr_ok (by omega) (by omega) HF) ?_
                clear H HF
                rintro _ h13 ⟨rfl, hz134, H⟩
                replace H := H.ins 1
                dsimp only [insP] at H
                refine ol_nil ?_
                refine blockX_n ?_
                refine thenX_n ?_
                refine cd_region ?_
                refine ol_y rfl rfl (y_addi rfl rfl rfl (in64 (by omega) (by omega))) ?_
                refine ol_y rfl rfl (y_move rfl rfl) ?_
                refine ol_nil ?_
                refine thenX_n ?_
                rw [Int.toNat_natCast] at H
                have hia : i = at_ := by omega
                subst hia
                rw [last_set hi2] at H
                have hw := while_at (fun y : Pr => decide ((gt ps (k : Int)).2 ≤ y.2)) out i (by omega) (fun j y hj hy => hn j y hj hy) hx
                refine ⟨(k + 1, ov2, ob2, oc2), ⟨rfl, rfl, rfl, vint (by simp), trivial⟩, ⟨by (try dsimp only); omega, ?_⟩, by (try dsimp only); omega⟩
                (try dsimp only)
                rw [hst (by omega)]
                unfold insW
                rw [hw.1, hw.2]
                exact H.drop
        · (try have hg8_ := of_decide_eq_false hg8)
          have hx : ∀ y, out[at_]? = some y → decide ((gt ps (k : Int)).2 ≤ y.2) = false := fun y hy => by have := (List.getElem?_eq_some_iff.1 hy).1; omega
          refine hs_gn rfl rfl rfl rfl rfl hg8 rfl ?_
          refine hs_gn rfl rfl rfl rfl rfl hg8 rfl ?_
          refine hs_gn rfl rfl rfl rfl rfl hg8 rfl ?_
          refine hs_gn rfl rfl rfl rfl rfl hg8 rfl ?_
          refine hs_gn1 rfl rfl rfl rfl rfl hg8 rfl ?_
          refine hs_gn rfl rfl rfl rfl rfl hg8 rfl ?_
          refine hs_gn1 rfl rfl rfl rfl rfl hg8 rfl ?_
          refine hs_gn rfl rfl rfl rfl rfl hg8 rfl ?_
          refine hs_p rfl rfl rfl (y_pick_f rfl rfl hg8 rfl) ?_
          refine hs_nil ?_
          refine thenX_n ?_
          refine cd_false rfl rfl ?_
          refine cd_exit ?_
          refine thenX_e ?_
          refine thenX_e ?_
          refine blockX_hit ?_
          refine thenX_n ?_
          refine cd_seq ?_
          refine cd_region ?_
          refine ol_y rfl rfl (y_move rfl rfl) ?_
          refine ol_y rfl rfl (y_build (cs := [_, _]) rfl pl41 zero41 rfl) ?_
          refine ol_x rfl rfl (x_buildSlice (cs := [_, _]) rfl Try.underlying30 info41 rfl rfl rfl rfl H) ?_
          clear H
          rintro _ h14 ⟨rfl, hz_b, H⟩
          replace H := Sep.rowBlk (enc := ePr) (xs := [((0 : Int), (0 : Int))]) ePr_ok rfl (one_maxLen _) H
          have hv8_3 := H.rowV ePr_ok 0 rfl
          have hr8_3 := H.rowR ePr_ok 0 rfl
          replace H := H.drop
          have HF := H.front 1
          dsimp only [nthP, eraseP] at HF
          refine ol_x rfl rfl (x_append (enc := ePr) rfl Try.underlying30 info41 rfl (by decide) ePr_ok rfl rfl hv8_3 hr8_3 rfl (by simp only [List.length_cons, List.length_nil, maxLen]; omega) (by simp only [List.length_cons, List.length_nil, maxLen]; omega) HF) ?_
          clear H HF hv8_3 hr8_3
          rintro ov2 h15 ⟨hz_, ob2, oc2, H⟩
          replace H := H.ins 1
          dsimp only [insP] at H
          have hov2 := H.rowV ePr_ok 1 rfl
          refine ol_y rfl rfl (y_assign rfl rfl) ?_
          have hl2 : (out ++ [((0 : Int), (0 : Int))]).length = out.length + 1 := by simp
          refine ol_nil ?_
          refine thenX_n ?_
          refine cd_seq ?_
          refine cd_seq ?_
          refine cd_region ?_
          refine ol_y rfl rfl (y_move rfl rfl) ?_
          refine ol_y rfl rfl (y_lenV rfl Try.underlying30 rfl (by first | assumption | exact SlV.mk' _ _ _ _)) ?_
          refine ol_y rfl rfl ((y_subi rfl rfl rfl (in64 (by omega) (by omega))).eq (vint (show _ = ((out.length : Nat) : Int) by simp))) ?_
          refine ol_y rfl rfl (y_assign rfl rfl) ?_
          refine ol_nil ?_
          refine thenX_n ?_
          refine cd_block ?_
          refine cd_loop (γ := Nat × Pr) (fun g => [(3, ov2), (6, .int .i64 at_), (7, .int .i64 g.1), (5, .pointer (some ⟨pb, 0, none⟩)), (9, pv), (10, .int .i64 ps.length), (11, .int .i64 k)]) (fun g h' => at_ ≤ g.1 ∧ g.1 ≤ out.length ∧ Sep h' (blk pb (ePr (gt ps (k : Int))) 41 :: rowP ePr 2 41 ov2 ob2 oc2 (out.take g.1 ++ g.2 :: out.drop g.1) :: rowP ePr 2 41 pv pb_ pc ps :: HP.old h0 :: L)) (fun g => g.1) ((out.length, (0, 0))) ?_ ?_ ?_
          · (repeat (first | exact trivial | refine ⟨rfl, ?_⟩))
          · refine ⟨ha, Nat.le_refl _, ?_⟩
            (try dsimp only)
            rw [List.take_length, List.drop_length]
            exact H
          · skip
            rintro ⟨i, w⟩ ρ h16 ⟨hai, hi2, H⟩
            (try dsimp only)
            dsimp only at hai hi2 H
            have hlen : (out.take i ++ w :: out.drop i).length = out.length + 1 := by simp; omega
            have hov2 := H.rowV ePr_ok 1 rfl
            have hor2 := H.rowR ePr_ok 1 rfl
            have hpb5 := H.obj 0 rfl
            refine cd_seq ?_
            refine cd_seq ?_
            refine cd_region ?_
            refine ol_y rfl rfl (y_move rfl rfl) ?_
            refine ol_y rfl rfl (y_move rfl rfl) ?_
            refine ol_y rfl rfl (y_gtr rfl rfl rfl) ?_
            refine ol_nil ?_
            refine thenX_n ?_
            refine cd_cond _ rfl (fun hc2 => ?_) (fun hc2 => ?_)
            · (try replace hc2 := of_decide_eq_true hc2)
              refine cd_skip ?_
              refine thenX_n ?_
              refine cd_seq ?_
              refine cd_block ?_
              refine cd_region ?_
              refine ol_y rfl rfl (y_move rfl rfl) ?_
              refine ol_y rfl rfl (y_move rfl rfl) ?_
              refine ol_y rfl rfl (y_move rfl rfl) ?_
              refine ol_y rfl rfl (y_move rfl rfl) ?_
              refine ol_y rfl rfl ((y_subi rfl rfl rfl (in64 (by omega) (by omega))).eq (vint (show _ = ((i - 1 : Nat) : Int) by omega))) ?_
              refine ol_y rfl rfl (y_indexV rfl Try.underlying30 sz41 rfl (by first | assumption | exact SlV.mk' _ _ _ _) rfl (by omega) (by omega)) ?_
              refine ol_y rfl rfl (y_load rfl rfl (fun _ e => ldeq e (ld_rowN agg41 ePr_ok (by assumption) (by omega) (by omega) rfl))) ?_
              refine ol_y rfl rfl (y_indexV rfl Try.underlying30 sz41 rfl (by first | assumption | exact SlV.mk' _ _ _ _) rfl (by omega) (by omega)) ?_
              have HF := H.front 1
              dsimp only [nthP, eraseP] at HF
              refine ol_x rfl rfl (x_setRowN (enc := ePr) (i := (i : Int)) rfl rfl rfl sz41 ePr_ok (by omega) (by omega) HF) ?_
              clear H HF
              rintro _ h17 ⟨rfl, hz128, H⟩
              replace H := H.ins 1
              dsimp only [insP] at H
              refine ol_nil ?_
              refine blockX_n ?_
              refine thenX_n ?_
              refine cd_region ?_
              refine ol_y rfl rfl (y_move rfl rfl) ?_
              refine ol_y rfl rfl ((y_subi rfl rfl rfl (in64 (by omega) (by omega))).eq (vint (show _ = ((i - 1 : Nat) : Int) by omega))) ?_
              refine ol_y rfl rfl (y_assign rfl rfl) ?_
              refine ol_nil ?_
              refine thenX_n ?_
              rw [Int.toNat_natCast, shift_set (by omega) hi2] at H
              exact ⟨(i - 1, gt out ((i - 1 : Nat) : Int)), ⟨rfl, rfl, rfl, rfl, rfl, rfl, rfl, trivial⟩, ⟨by (try dsimp only); omega, by (try dsimp only); omega, H⟩, by (try dsimp only); omega⟩
            · (try replace hc2 := of_decide_eq_false hc2)
              refine cd_exit ?_
              refine thenX_e ?_
              refine thenX_e ?_
              refine blockX_hit ?_
              refine thenX_n ?_
              refine cd_region ?_
              refine ol_y rfl rfl (y_move rfl rfl) ?_
              refine ol_y rfl rfl (y_move rfl rfl) ?_
              refine ol_y rfl rfl (y_load rfl rfl (fun _ e => ldeq e (ldBlk agg41 (by assumption) rfl))) ?_
              refine ol_y rfl rfl (y_indexV rfl Try.underlying30 sz41 rfl (by first | assumption | exact SlV.mk' _ _ _ _) rfl (by omega) (by omega)) ?_
              have HF := H.front 1
              dsimp only [nthP, eraseP] at HF
              refine ol_x rfl rfl (x_setRowN (enc := ePr) (i := (at_ : Int)) (y' := gt ps (k : Int)) rfl rfl rfl sz41 ePr_ok (by omega) (by omega) HF) ?_
              clear H HF
              rintro _ h18 ⟨rfl, hz134, H⟩
              replace H := H.ins 1
              dsimp only [insP] at H
              refine ol_nil ?_
              refine blockX_n ?_
              refine thenX_n ?_
              refine cd_region ?_
              refine ol_y rfl rfl (y_addi rfl rfl rfl (in64 (by omega) (by omega))) ?_
              refine ol_y rfl rfl (y_move rfl rfl) ?_
              refine ol_nil ?_
              refine thenX_n ?_
              rw [Int.toNat_natCast] at H
              have hia : i = at_ := by omega
              subst hia
              rw [last_set hi2] at H
              have hw := while_at (fun y : Pr => decide ((gt ps (k : Int)).2 ≤ y.2)) out i (by omega) (fun j y hj hy => hn j y hj hy) hx
              refine ⟨(k + 1, ov2, ob2, oc2), ⟨rfl, rfl, rfl, vint (by simp), trivial⟩, ⟨by (try dsimp only); omega, ?_⟩, by (try dsimp only); omega⟩
              (try dsimp only)
              rw [hst (by omega)]
              unfold insW
              rw [hw.1, hw.2]
              exact H.drop
    · (try replace hc0 := of_decide_eq_false hc0)
      refine cd_exit ?_
      refine thenX_e ?_
      refine thenX_e ?_
      refine blockX_hit ?_
      refine thenX_n ?_
      refine cd_seq ?_
      refine cd_region ?_
      refine ol_y rfl rfl (y_move rfl rfl) ?_
      refine ol_y rfl rfl (y_assign rfl rfl) ?_
      refine ol_nil ?_
      refine thenX_n ?_
      refine cd_ret ?_
      refine ret1 Try.results18 rfl ?_
      have ek : k = ps.length := by omega
      subst ek
      rw [← hout, List.take_length] at H
      have H1 := (H.front 1).drop
      dsimp only [nthP, eraseP] at H1
      have er : rankedL xs = rkI ps := by unfold rankedL rkI; rw [hps]
      rw [er]
      exact ⟨ob, oc, H1⟩


end Go.X
