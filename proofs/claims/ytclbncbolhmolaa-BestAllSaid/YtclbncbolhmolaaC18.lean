/- The first thing asked; the best of any range: printed walks. -/
import Derived.Test.YtclbncbolhmolaaC17
namespace Go.X
open Go Go.Proofs
set_option linter.unusedVariables false
set_option linter.unusedSimpArgs false
attribute [local irreducible] rowP HP.obj HP.old
theorem Rd.take {α : Type} {enc : α → List Value} {sz : Nat} {h : Heap} {b p : Nat} {xs : List α} (H : Rd enc sz h b p xs) (m : Nat) : Rd enc sz h b p (xs.take m) := fun i x hx j v hv =>
  H i x (by rw [List.getElem?_take] at hx; split at hx <;> first | exact hx | cases hx) j v hv
theorem c_SameT {h : Heap} {v v2 : Value} {b p c b2 p2 c2 : Nat} {xs ys : List Pr} (hv : SlV v b p xs.length c) (hr : Rd ePr 2 h b p xs) (hv2 : SlV v2 b2 p2 ys.length c2) (hr2 : Rd ePr 2 h b2 p2 ys) (hl : xs.length ≤ 4194304) (e : xs = ys) :
    FnT Try.prog 20 [v, v2] h (fun v h' => v = .bool true ∧ h = h') :=
  (c_Same hv hr hv2 hr2 hl).mono fun v' h' ⟨h1, h2⟩ => ⟨by rw [h1, decide_eq_true e], h2⟩
theorem rankedL_le (l : List Int) : (rankedL l).length ≤ l.length := by
  have e : rankedL l = rkI (pairsL l) := rfl
  have h1 := rkI_len (pairsL l) []
  have h2 := pairsL_len l
  rw [e]; unfold rkI; rw [h1, List.length_nil]; omega
theorem take_min {α : Type} (l : List α) (k : Int) : l.take (max 0 (min k l.length)).toNat = l.take k.toNat := by
  rw [List.take_eq_take_iff]; omega

theorem c_first18 {h : Heap} :
    FnT Try.prog 15 [] h (fun v h' => v = .bool true ∧ Ext h h') := by
  have H := Sep.start h
  refine fn_enter Try.func15 rfl Try.ntmps15 rfl ?_
  refine cd_seq ?_
  refine cd_region ?_
  refine ol_y rfl rfl (y_assign rfl rfl) ?_
  refine ol_nil ?_
  refine thenX_n ?_
  refine cd_seq ?_
  refine cd_region ?_
  refine ol_x rfl rfl (x_buildSlice (cs := [_, _, _, _, _, _]) rfl Try.underlying22 info3 rfl rfl rfl rfl H) ?_
  clear H
  rintro _ h1 ⟨rfl, hzl_b, H⟩
  replace H := Sep.rowBlk (enc := eI) (xs := ([2, 0, 2, 1, 1, 2] : List Int)) eI_ok rfl (by simp [maxLen]) H
  have hv1_0 := H.rowV eI_ok 0 rfl
  have hr1_0 := H.rowR eI_ok 0 rfl
  refine ol_x rfl rfl (x_call rfl go17 rfl (c_waveNew (m := 2) hv1_0 hr1_0 (by decide) (by decide) (by decide))) ?_
  rintro _ h2 ⟨mb, vbs, rfl, hx, hm⟩
  have hE0 := (H.ext 1 rfl).trans hx
  clear H
  have H := Sep.start h2
  refine ol_y rfl rfl (y_move rfl rfl) ?_
  refine ol_y rfl rfl (y_extract rfl rfl rfl) ?_
  refine ol_y rfl rfl (y_extract rfl rfl rfl) ?_
  refine ol_y rfl rfl (y_assign rfl rfl) ?_
  refine ol_y rfl rfl (y_assign rfl rfl) ?_
  refine ol_nil ?_
  refine thenX_n ?_
  refine cd_seq ?_
  refine cd_region ?_
  refine ol_y rfl rfl (y_move rfl rfl) ?_
  refine ol_x rfl rfl (x_call rfl go21 rfl (c_Top (h0 := h2) (a := 0) (b := 6) (k := 2) H (.inr ⟨mb, rfl, hm⟩) (root_ok hm.rng))) ?_
  clear H
  rintro tv1 h4 ⟨tb1, tc1, out1, H, ho1⟩
  have e1 : out1 = [(2, 3), (1, 2)] := (ho1 _ (root_rem hm.rng (rankedL_of _))).trans (by decide)
  clear ho1
  refine ol_y rfl rfl (y_build (cs := [_, _]) rfl pl41 zero41 rfl) ?_
  refine ol_y rfl rfl (y_build (cs := [_, _]) rfl pl41 zero41 rfl) ?_
  refine ol_x rfl rfl (x_buildSlice (cs := [_, _, _, _]) rfl Try.underlying30 info41 rfl rfl rfl rfl H) ?_
  clear H
  rintro _ h5 ⟨rfl, hzl_b, H⟩
  replace H := Sep.rowBlk (enc := ePr) (xs := ([(2, 3), (1, 2)] : List Pr)) ePr_ok rfl (by simp [maxLen]) H
  have hv2_4 := H.rowV ePr_ok 0 rfl
  have hr2_4 := H.rowR ePr_ok 0 rfl
  have ho1v := H.rowV ePr_ok 1 rfl
  have ho1r := H.rowR ePr_ok 1 rfl
  refine ol_x rfl rfl (x_call rfl go20 rfl (c_SameT ho1v ho1r hv2_4 hr2_4 (by rw [e1]; decide) e1)) ?_
  rintro _ _ ⟨rfl, rfl⟩
  refine ol_y rfl rfl (y_move rfl rfl) ?_
  refine ol_split (t := 14) rfl (fun hg7 => ?_) (fun hg7 => ?_)
  · (try have hg7_ := of_decide_eq_true hg7)
    refine ol_gy rfl rfl rfl rfl hg7 rfl (y_move rfl rfl) ?_
    replace H := H.front 2
    dsimp only [nthP, eraseP] at H
    refine ol_gx rfl rfl rfl rfl hg7 rfl (x_call rfl go21 rfl (c_Top (h0 := h2) (a := 1) (b := 5) (k := 9) H (.inr ⟨mb, rfl, hm⟩) (root_ok hm.rng))) ?_
    clear H
    rintro tv2 h9 ⟨tb2, tc2, out2, H, ho2⟩
    have e2 : out2 = [(1, 2), (0, 1), (2, 1)] := (ho2 _ (root_rem hm.rng (rankedL_of _))).trans (by decide)
    clear ho2
    refine ol_gy rfl rfl rfl rfl hg7 rfl (y_build (cs := [_, _]) rfl pl41 zero41 rfl) ?_
    refine ol_gy rfl rfl rfl rfl hg7 rfl (y_build (cs := [_, _]) rfl pl41 zero41 rfl) ?_
    refine ol_gy rfl rfl rfl rfl hg7 rfl (y_build (cs := [_, _]) rfl pl41 zero41 rfl) ?_
    refine ol_gx rfl rfl rfl rfl hg7 rfl (x_buildSlice (cs := [_, _, _, _, _, _]) rfl Try.underlying30 info41 rfl rfl rfl rfl H) ?_
    clear H
    rintro _ h10 ⟨rfl, hzl_b, H⟩
    replace H := Sep.rowBlk (enc := ePr) (xs := ([(1, 2), (0, 1), (2, 1)] : List Pr)) ePr_ok rfl (by simp [maxLen]) H
    have hv2_12 := H.rowV ePr_ok 0 rfl
    have hr2_12 := H.rowR ePr_ok 0 rfl
    have ho2v := H.rowV ePr_ok 1 rfl
    have ho2r := H.rowR ePr_ok 1 rfl
    refine ol_gx rfl rfl rfl rfl hg7 rfl (x_call rfl go20 rfl (c_SameT ho2v ho2r hv2_12 hr2_12 (by rw [e2]; decide) e2)) ?_
    rintro _ _ ⟨rfl, rfl⟩
    refine ol_y rfl rfl (y_pick_t rfl rfl hg7 rfl) ?_
    refine ol_y rfl rfl (y_move rfl rfl) ?_
    replace H := H.front 2
    dsimp only [nthP, eraseP] at H
    refine ol_split (t := 23) rfl (fun hg12 => ?_) (fun hg12 => ?_)
    · (try have hg12_ := of_decide_eq_true hg12)
      refine ol_gx rfl rfl rfl rfl hg12 rfl (x_call rfl go21 rfl (c_Top (h0 := h2) (W := 0) (l := []) (vbs := []) (a := 0) (b := 9) (k := 1) H (.inl ⟨rfl, rfl⟩) (root_ok (by simp)))) ?_
      clear H
      rintro tv3 h14 ⟨tb3, tc3, out3, H, ho3⟩
      have e3 : out3 = [] := (ho3 _ (root_rem (by simp) (rankedL_of _))).trans (by decide)
      clear ho3
      have ho3v := H.rowV ePr_ok 0 rfl
      refine ol_gy rfl rfl rfl rfl hg12 rfl (y_lenV rfl Try.underlying30 rfl (by first | assumption | exact SlV.mk' _ _ _ _)) ?_
      refine ol_gy rfl rfl rfl rfl hg12 rfl (y_eql rfl rfl rfl) ?_
      refine ol_y rfl rfl (y_pick_t rfl rfl hg12 rfl) ?_
      refine ol_y rfl rfl (y_assign rfl rfl) ?_
      refine ol_nil ?_
      refine thenX_n ?_
      refine cd_ret ?_
      refine ret1 Try.results15 rfl ?_
      refine ⟨vbool ?_, hE0.trans (H.ext 1 rfl)⟩
      rw [e3]; rfl
    · (try have hg12_ := of_decide_eq_false hg12)
      cases hg12
  · (try have hg7_ := of_decide_eq_false hg7)
    cases hg7


theorem c_BestTops {h : Heap} {v : Value} {b p c : Nat} {l : List Int} {a0 a1 k : Int} (hv : SlV v b p l.length c) (hr : Rd eI 1 h b p l) :
    FnT Try.prog 3 [v, .agg #[.int .i64 a0, .int .i64 a1], .int .i64 k] h (fun v h' => v = .bool true ∧ Ext h h') := by
  have H := Sep.start h
  refine fn_enter Try.func3 rfl Try.ntmps3 rfl ?_
  refine cd_seq ?_
  refine cd_region ?_
  refine ol_x rfl rfl (x_box rfl rfl rfl H) ?_
  clear H
  rintro _ h2 ⟨rfl, hz1, H⟩
  have hbx := H.obj 0 rfl
  refine ol_y rfl rfl (y_assign rfl rfl) ?_
  refine ol_nil ?_
  refine thenX_n ?_
  refine cd_seq ?_
  refine cd_seq ?_
  refine cd_region ?_
  refine ol_x rfl rfl (x_call rfl go15 rfl c_first18) ?_
  rintro _ h4 ⟨rfl, hx⟩
  replace H := H.extend hx
  replace hbx := hx.get hbx
  have hr1 := (H.ext 1 rfl).rd hr
  refine ol_y rfl rfl (y_not rfl rfl) ?_
  refine ol_nil ?_
  refine thenX_n ?_
  refine cd_false rfl rfl ?_
  refine cd_skip ?_
  refine thenX_n ?_
  refine cd_seq ?_
  refine cd_seq ?_
  refine cd_region ?_
  refine ol_y rfl rfl (y_move rfl rfl) ?_
  refine ol_y rfl rfl (y_lenV rfl Try.underlying22 rfl (by first | assumption | exact SlV.mk' _ _ _ _)) ?_
  refine ol_y rfl rfl (y_gtr rfl rfl rfl) ?_
  refine ol_y rfl rfl (y_move rfl rfl) ?_
  refine ol_split (t := 15) rfl (fun hg5 => ?_) (fun hg5 => ?_)
  · (try have hg5_ := of_decide_eq_true hg5)
    refine ol_gn rfl rfl rfl rfl hg5 rfl ?_
    refine ol_gn rfl rfl rfl rfl hg5 rfl ?_
    refine ol_gn rfl rfl rfl rfl hg5 rfl ?_
    refine ol_y rfl rfl (y_pick_t rfl rfl hg5 rfl) ?_
    refine ol_nil ?_
    refine thenX_n ?_
    refine cd_true rfl rfl ?_
    refine cd_seq ?_
    refine cd_region ?_
    refine ol_y rfl rfl (y_assign rfl rfl) ?_
    refine ol_nil ?_
    refine thenX_n ?_
    refine cd_ret ?_
    refine thenX_r ?_
    refine ret1 Try.results3 rfl ?_
    exact ⟨rfl, H.ext 1 rfl⟩
  · (try have hg5_ := of_decide_eq_false hg5)
    refine ol_gy rfl rfl rfl rfl hg5 rfl (y_move rfl rfl) ?_
    refine ol_gx rfl rfl rfl rfl hg5 rfl (x_call rfl go16 rfl (c_Right hv hr1 (by omega) (by decide))) ?_
    rintro _ _ ⟨rfl, rfl⟩
    refine ol_gy rfl rfl rfl rfl hg5 rfl (y_not rfl rfl) ?_
    refine ol_y rfl rfl (y_pick_f rfl rfl hg5 rfl) ?_
    refine ol_nil ?_
    refine thenX_n ?_
    refine cd_cond _ rfl (fun hc1 => ?_) (fun hc1 => ?_)
    · (try replace hc1 := of_decide_eq_true hc1)
      refine cd_seq ?_
      refine cd_region ?_
      refine ol_y rfl rfl (y_assign rfl rfl) ?_
      refine ol_nil ?_
      refine thenX_n ?_
      refine cd_ret ?_
      refine thenX_r ?_
      refine ret1 Try.results3 rfl ?_
      exact ⟨rfl, H.ext 1 rfl⟩
    · (try replace hc1 := of_decide_eq_false hc1)
      have hrow : ∀ x ∈ l, 0 ≤ x ∧ x ≤ 300 := fun x hx => by
        have h1 : l.all (inAl 301) = true := by simpa using hc1
        have h2 := List.all_eq_true.1 h1 x hx
        have h3 := of_decide_eq_true h2
        omega
      refine cd_skip ?_
      refine thenX_n ?_
      refine cd_seq ?_
      refine cd_region ?_
      refine ol_y rfl rfl (y_move rfl rfl) ?_
      refine ol_x rfl rfl (x_call rfl go17 rfl (c_waveNew (m := 300) hv hr1 (by omega) (by decide) hrow)) ?_
      rintro _ h2 ⟨mb, vbs, rfl, hx2, hm⟩
      have hE0 := (H.ext 1 rfl).trans hx2
      replace hbx := hx2.get hbx
      replace hr1 := hx2.rd hr1
      clear H
      have H := Sep.start h2
      refine ol_y rfl rfl (y_move rfl rfl) ?_
      refine ol_y rfl rfl (y_extract rfl rfl rfl) ?_
      refine ol_y rfl rfl (y_extract rfl rfl rfl) ?_
      refine ol_y rfl rfl (y_assign rfl rfl) ?_
      refine ol_y rfl rfl (y_assign rfl rfl) ?_
      refine ol_nil ?_
      refine thenX_n ?_
      refine cd_seq ?_
      refine cd_region ?_
      refine ol_y rfl rfl (y_move rfl rfl) ?_
      refine ol_y rfl rfl (y_indexAddrA rfl Try.underlying23 sz3 rfl rfl (by omega) (by omega)) ?_
      refine ol_y rfl rfl (y_load rfl rfl (fun _ e => ldeq e (ld1 scl3 (cellH_blk (by assumption) rfl)))) ?_
      refine ol_y rfl rfl (y_indexAddrA rfl Try.underlying23 sz3 rfl rfl (by omega) (by omega)) ?_
      refine ol_y rfl rfl (y_load rfl rfl (fun _ e => ldeq e (ld1 scl3 (cellH_blk (by assumption) rfl)))) ?_
      refine ol_x rfl rfl (x_call rfl go19 rfl (c_Part H hv hr1 (by omega))) ?_
      rintro pv h3 ⟨pb_, pc, H⟩
      have hpl := partI_len l a0 a1 l.length
      have hx3 := H.ext 1 rfl
      have hpv := H.rowV eI_ok 0 rfl
      have hpr := H.rowR eI_ok 0 rfl
      clear H
      replace hbx := hx3.get hbx
      replace hm := hm.ext hx3
      replace hE0 := hE0.trans hx3
      have H := Sep.start h3
      refine ol_x rfl rfl (x_call rfl go18 rfl (c_Ranked H hpv hpr (by omega))) ?_
      rintro rv h4 ⟨rb, rc, H⟩
      have hal := rankedL_le (partI l a0 a1 l.length)
      have hx4 := H.ext 1 rfl
      have hrv := H.rowV ePr_ok 0 rfl
      have hrr := H.rowR ePr_ok 0 rfl
      have hrc := H.rowC 0 rfl
      clear H
      replace hbx := hx4.get hbx
      replace hm := hm.ext hx4
      replace hE0 := hE0.trans hx4
      have H := Sep.start h4
      refine ol_y rfl rfl (y_assign rfl rfl) ?_
      refine ol_nil ?_
      refine thenX_n ?_
      refine cd_seq ?_
      refine cd_draw (some 6) (fun x => x = h4) [(0, 0), (1, 0), (2, 1), (3, 0), (4, 1), (5, 0), (7, 0), (8, 0), (9, 0), (10, 0), (11, 0), (12, 0), (13, 0), (6, 2), (14, 3), (15, 0)] mixed (by kernel_rfl) (by kernel_rfl) (by kernel_rfl) ?_ ?_
      · exact rfl
      refine hs_p rfl rfl rfl (y_move rfl rfl) ?_
      refine hs_p rfl rfl rfl (y_indexAddrA rfl Try.underlying23 sz3 rfl rfl (by omega) (by omega)) ?_
      refine hs_y rfl rfl rfl (y_load rfl rfl (fun _ e => ldeq e (ld1 scl3 (cellH_blk (by assumption) rfl)))) ?_
      refine hs_p rfl rfl rfl (y_indexAddrA rfl Try.underlying23 sz3 rfl rfl (by omega) (by omega)) ?_
      refine hs_y rfl rfl rfl (y_load rfl rfl (fun _ e => ldeq e (ld1 scl3 (cellH_blk (by assumption) rfl)))) ?_
      refine hs_p rfl rfl rfl (y_move rfl rfl) ?_
      refine hs_p rfl rfl rfl (y_move rfl rfl) ?_
      refine hs_p rfl rfl rfl (y_move rfl rfl) ?_
      refine hs_p rfl rfl rfl (y_move rfl rfl) ?_
      refine hs_p rfl rfl rfl (y_lenV rfl Try.underlying30 rfl (by first | assumption | exact SlV.mk' _ _ _ _)) ?_
      refine hs_p rfl rfl rfl (y_min rfl rfl rfl) ?_
      refine hs_p rfl rfl rfl (y_max rfl rfl rfl) ?_
      refine hs_p rfl rfl rfl (y_cutV (m := (max 0 (min k ((rankedL (partI l a0 a1 l.length)).length : Int))).toNat) rfl Try.underlying30 sz41 rfl hrv rfl (by omega) (by omega)) ?_
      refine hs_xk rfl rfl rfl (x_call rfl go21 rfl (c_Top (h0 := h4) H (.inr ⟨mb, rfl, hm⟩) (root_ok hm.rng))) rfl ?_
      clear H
      rintro tv h11 ⟨tb, tc, out, H, ho⟩
      have ho1v := H.rowV ePr_ok 0 rfl
      have ho1r := H.rowR ePr_ok 0 rfl
      have hrr2 := ((H.ext 1 rfl).rd hrr).take (max 0 (min k ((rankedL (partI l a0 a1 l.length)).length : Int))).toNat
      have hcv := cutV_sl (i := (max 0 (min k ((rankedL (partI l a0 a1 l.length)).length : Int))).toNat) hrv (by omega)
      have e1 : out = (rankedL (partI l a0 a1 l.length)).take (max 0 (min k ((rankedL (partI l a0 a1 l.length)).length : Int))).toNat := by
        rw [take_min, partI_slice _ _ _ _ (Nat.le_refl _)]
        exact ho _ (root_rem hm.rng (rankedL_of _))
      have hcl : ((rankedL (partI l a0 a1 l.length)).take (max 0 (min k ((rankedL (partI l a0 a1 l.length)).length : Int))).toNat).length = (max 0 (min k ((rankedL (partI l a0 a1 l.length)).length : Int))).toNat := by rw [List.length_take]; omega
      replace hcv : SlV (cutV rv (max 0 (min k ((rankedL (partI l a0 a1 l.length)).length : Int))).toNat) rb 0 ((rankedL (partI l a0 a1 l.length)).take (max 0 (min k ((rankedL (partI l a0 a1 l.length)).length : Int))).toNat).length rc := by rw [hcl]; exact hcv
      refine hs_xa rfl rfl rfl (x_call rfl go20 rfl (c_SameT ho1v ho1r hcv hrr2 (by rw [e1, hcl]; omega) e1)) ?_
      rintro _ _ ⟨rfl, rfl⟩
      refine hs_p rfl rfl rfl (y_assign rfl rfl) ?_
      refine hs_nil ?_
      refine thenX_n ?_
      refine cd_ret ?_
      refine ret1 Try.results3 rfl ?_
      exact ⟨rfl, hE0.trans (H.ext 1 rfl)⟩


end Go.X
