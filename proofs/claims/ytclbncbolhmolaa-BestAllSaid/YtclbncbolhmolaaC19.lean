/- BestFirsts: printed walk. -/
import Derived.Test.YtclbncbolhmolaaC18
import Derived.Test.YtclbncbolhmolaaM9
namespace Go.X
open Go Go.Proofs
set_option linter.unusedVariables false
set_option linter.unusedSimpArgs false
attribute [local irreducible] rowP HP.obj HP.old

theorem c_BestFirsts {h : Heap} {v : Value} {b p c : Nat} {l : List Int} {a0 a1 u0 u1 : Int} (hv : SlV v b p l.length c) (hr : Rd eI 1 h b p l) (hu0 : 0 ≤ u0 ∧ u0 ≤ 255) (hu1 : 0 ≤ u1 ∧ u1 ≤ 255) :
    FnT Try.prog 6 [v, .agg #[.int .i64 a0, .int .i64 a1], .agg #[.int .u8 u0, .int .u8 u1]] h (fun v h' => v = .bool true ∧ Ext h h') := by
  have H := Sep.start h
  refine fn_enter Try.func6 rfl Try.ntmps6 rfl ?_
  refine cd_seq ?_
  refine cd_region ?_
  refine ol_x rfl rfl (x_box rfl rfl rfl H) ?_
  clear H
  rintro _ h2 ⟨rfl, hz1, H⟩
  refine ol_x rfl rfl (x_box rfl rfl rfl H) ?_
  clear H
  rintro _ h4 ⟨rfl, hz3, H⟩
  have hbx := H.obj 1 rfl
  have hby := H.obj 0 rfl
  refine ol_y rfl rfl (y_assign rfl rfl) ?_
  refine ol_nil ?_
  refine thenX_n ?_
  refine cd_seq ?_
  refine cd_seq ?_
  refine cd_region ?_
  refine ol_x rfl rfl (x_call rfl go15 rfl c_first18) ?_
  rintro _ h6 ⟨rfl, hx⟩
  replace H := H.extend hx
  replace hbx := hx.get hbx
  replace hby := hx.get hby
  have hr1 := (H.ext 2 rfl).rd hr
  refine ol_y rfl rfl (y_not rfl rfl) ?_
  refine ol_nil ?_
  refine thenX_n ?_
  refine cd_false rfl rfl ?_
  refine cd_skip ?_
  refine thenX_n ?_
  refine cd_seq ?_
  refine cd_seq ?_
  refine cd_region ?_
  refine ol_y rfl rfl (y_move rfl rfl) ?_
  refine ol_y rfl rfl (y_lenV rfl Try.underlying22 rfl (by first | assumption | exact SlV.mk' _ _ _ _)) ?_
  refine ol_y rfl rfl (y_gtr rfl rfl rfl) ?_
  refine ol_y rfl rfl (y_move rfl rfl) ?_
  refine ol_split (t := 20) rfl (fun hg7 => ?_) (fun hg7 => ?_)
  · (try have hg7_ := of_decide_eq_true hg7)
    refine ol_gn rfl rfl rfl rfl hg7 rfl ?_
    refine ol_gn rfl rfl rfl rfl hg7 rfl ?_
    refine ol_gn rfl rfl rfl rfl hg7 rfl ?_
    refine ol_y rfl rfl (y_pick_t rfl rfl hg7 rfl) ?_
    refine ol_nil ?_
    refine thenX_n ?_
    refine cd_true rfl rfl ?_
    refine cd_seq ?_
    refine cd_region ?_
    refine ol_y rfl rfl (y_assign rfl rfl) ?_
    refine ol_nil ?_
    refine thenX_n ?_
    refine cd_ret ?_
    refine thenX_r ?_
    refine ret1 Try.results6 rfl ?_
    exact ⟨rfl, H.ext 2 rfl⟩
  · (try have hg7_ := of_decide_eq_false hg7)
    refine ol_gy rfl rfl rfl rfl hg7 rfl (y_move rfl rfl) ?_
    refine ol_gx rfl rfl rfl rfl hg7 rfl (x_call rfl go16 rfl (c_Right hv hr1 (by omega) (by decide))) ?_
    rintro _ _ ⟨rfl, rfl⟩
    refine ol_gy rfl rfl rfl rfl hg7 rfl (y_not rfl rfl) ?_
    refine ol_y rfl rfl (y_pick_f rfl rfl hg7 rfl) ?_
    refine ol_nil ?_
    refine thenX_n ?_
    refine cd_cond _ rfl (fun hc1 => ?_) (fun hc1 => ?_)
    · (try replace hc1 := of_decide_eq_true hc1)
      refine cd_seq ?_
      refine cd_region ?_
      refine ol_y rfl rfl (y_assign rfl rfl) ?_
      refine ol_nil ?_
      refine thenX_n ?_
      refine cd_ret ?_
      refine thenX_r ?_
      refine ret1 Try.results6 rfl ?_
      exact ⟨rfl, H.ext 2 rfl⟩
    · (try replace hc1 := of_decide_eq_false hc1)
      have hrow : ∀ x ∈ l, 0 ≤ x ∧ x ≤ 300 := fun x hx => by
        have h1 : l.all (inAl 301) = true := by simpa using hc1
        have h2 := List.all_eq_true.1 h1 x hx
        have h3 := of_decide_eq_true h2
        omega
      refine cd_skip ?_
      refine thenX_n ?_
      refine cd_seq ?_
      refine cd_region ?_
      refine ol_y rfl rfl (y_move rfl rfl) ?_
      refine ol_x rfl rfl (x_call rfl go17 rfl (c_waveNew (m := 300) hv hr1 (by omega) (by decide) hrow)) ?_
      rintro _ h2 ⟨mb, vbs, rfl, hx2, hm⟩
      have hE0 := (H.ext 2 rfl).trans hx2
      replace hbx := hx2.get hbx
      replace hby := hx2.get hby
      clear H
      have H := Sep.start h2
      refine ol_y rfl rfl (y_move rfl rfl) ?_
      refine ol_y rfl rfl (y_extract rfl rfl rfl) ?_
      refine ol_y rfl rfl (y_extract rfl rfl rfl) ?_
      refine ol_y rfl rfl (y_assign rfl rfl) ?_
      refine ol_y rfl rfl (y_assign rfl rfl) ?_
      refine ol_nil ?_
      refine thenX_n ?_
      refine cd_seq ?_
      refine cd_region ?_
      refine ol_y rfl rfl (y_indexAddrA rfl Try.underlying48 sz5 rfl rfl (by omega) (by omega)) ?_
      refine ol_y rfl rfl (y_load rfl rfl (fun _ e => ldeq e (ld1 scl5 (cellH_blk (by assumption) rfl)))) ?_
      refine ol_y rfl rfl (y_indexAddrA rfl Try.underlying48 sz5 rfl rfl (by omega) (by omega)) ?_
      refine ol_y rfl rfl (y_load rfl rfl (fun _ e => ldeq e (ld1 scl5 (cellH_blk (by assumption) rfl)))) ?_
      refine ol_y rfl rfl (y_min rfl rfl rfl) ?_
      refine ol_y rfl rfl (y_convw rfl ⟨_, Try.underlying5⟩ Try.underlying3 rfl (in64 (by omega) (by omega))) ?_
      refine ol_y rfl rfl (y_addi rfl rfl rfl (in64 (by omega) (by omega))) ?_
      refine ol_y rfl rfl (y_assign rfl rfl) ?_
      refine ol_nil ?_
      refine thenX_n ?_
      refine cd_seq ?_
      refine cd_region ?_
      refine ol_y rfl rfl (y_indexAddrA rfl Try.underlying48 sz5 rfl rfl (by omega) (by omega)) ?_
      refine ol_y rfl rfl (y_load rfl rfl (fun _ e => ldeq e (ld1 scl5 (cellH_blk (by assumption) rfl)))) ?_
      refine ol_y rfl rfl (y_indexAddrA rfl Try.underlying48 sz5 rfl rfl (by omega) (by omega)) ?_
      refine ol_y rfl rfl (y_load rfl rfl (fun _ e => ldeq e (ld1 scl5 (cellH_blk (by assumption) rfl)))) ?_
      refine ol_y rfl rfl (y_max rfl rfl rfl) ?_
      refine ol_y rfl rfl (y_convw rfl ⟨_, Try.underlying5⟩ Try.underlying3 rfl (in64 (by omega) (by omega))) ?_
      refine ol_y rfl rfl (y_addi rfl rfl rfl (in64 (by omega) (by omega))) ?_
      refine ol_y rfl rfl (y_assign rfl rfl) ?_
      refine ol_nil ?_
      refine thenX_n ?_
      refine cd_seq ?_
      refine cd_draw (none) (fun x => x[h.size]? = some (.cells [.int .i64 a0, .int .i64 a1].toArray 23 (0, 0))) [(0, 0), (1, 0), (2, 1), (3, 0), (4, 1), (5, 0), (7, 0), (8, 0), (9, 1), (10, 0), (11, 1), (12, 0), (6, 2), (13, 2), (14, 0), (15, 0)] mixed (by kernel_rfl) (by kernel_rfl) (by kernel_rfl) ?_ ?_
      · exact hbx
      refine hs_p rfl rfl rfl (y_move rfl rfl) ?_
      refine hs_p rfl rfl rfl (y_indexAddrA rfl Try.underlying23 sz3 rfl rfl (by omega) (by omega)) ?_
      refine hs_y rfl rfl rfl (y_load rfl rfl (fun x hx => (ld1 scl3 (cellH_blk (by assumption) rfl)))) ?_
      refine hs_p rfl rfl rfl (y_indexAddrA rfl Try.underlying23 sz3 rfl rfl (by omega) (by omega)) ?_
      refine hs_y rfl rfl rfl (y_load rfl rfl (fun x hx => (ld1 scl3 (cellH_blk (by assumption) rfl)))) ?_
      refine hs_p rfl rfl rfl (y_move rfl rfl) ?_
      refine hs_p rfl rfl rfl (y_move rfl rfl) ?_
      refine hs_p rfl rfl rfl (y_indexAddrA rfl Try.underlying23 sz3 rfl rfl (by omega) (by omega)) ?_
      refine hs_y rfl rfl rfl (y_load rfl rfl (fun x hx => (ld1 scl3 (cellH_blk (by assumption) rfl)))) ?_
      refine hs_p rfl rfl rfl (y_indexAddrA rfl Try.underlying23 sz3 rfl rfl (by omega) (by omega)) ?_
      refine hs_y rfl rfl rfl (y_load rfl rfl (fun x hx => (ld1 scl3 (cellH_blk (by assumption) rfl)))) ?_
      refine hs_p rfl rfl rfl (y_move rfl rfl) ?_
      refine hs_x rfl rfl rfl (x_call rfl go21 rfl (c_Top (h0 := h2) H (.inr ⟨mb, rfl, hm⟩) (root_ok hm.rng))) ?_
      clear H
      rintro av h11 ⟨ab, ac, outa, H, hoa⟩
      refine ⟨(by first | exact (H.ext 1 rfl).get hbx | exact hbx), ?_⟩
      replace H := H.front 1
      dsimp only [nthP, eraseP] at H
      refine hs_x rfl rfl rfl (x_call rfl go21 rfl (c_Top (h0 := h2) H (.inr ⟨mb, rfl, hm⟩) (root_ok hm.rng))) ?_
      clear H
      rintro bv h3 ⟨bb, bc, outb, H, hob⟩
      have hRk := rankedL_of (sliceL l (max a0 0).toNat (min a1 l.length).toNat)
      generalize hR : rankedL (sliceL l (max a0 0).toNat (min a1 l.length).toNat) = R at *
      have ea := hoa _ (root_rem hm.rng hRk)
      have eb := hob _ (root_rem hm.rng hRk)
      have hRl : R.length ≤ l.length := by rw [← hR]; exact Nat.le_trans (rankedL_le _) (sliceL_le _ _ _)
      have hla := congrArg List.length ea
      have hlb := congrArg List.length eb
      rw [List.length_take] at hla hlb
      have hab := take_take_len R (j := (1 + min u0 u1).toNat) (k := (1 + max u0 u1).toNat) (by omega)
      rw [← ea, ← eb] at hab
      have hbest0 := fun D (h1 : PairsOf (sliceL l (max a0 0).toNat (min a1 l.length).toNat) D) pr (h : pr ∈ D) => best_first h1 hRk (k := (1 + max u0 u1).toNat) (by omega) h
      rw [← eb] at hbest0
      have hav := H.rowV ePr_ok 2 rfl
      have har := H.rowR ePr_ok 2 rfl
      have hbv := H.rowV ePr_ok 0 rfl
      have hbr := H.rowR ePr_ok 0 rfl
      have hbc := H.rowC 0 rfl
      have hx3 := H.ext 1 rfl
      replace hbx := hx3.get hbx
      replace hm := hm.ext hx3
      replace hE0 := hE0.trans hx3
      clear H hoa hob
      have H := Sep.start h3
      have hcv := cutV_sl (i := outa.length) hbv (by omega)
      have hcl : (outb.take outa.length).length = outa.length := by rw [List.length_take]; omega
      replace hcv : SlV (cutV bv outa.length) bb 0 (outb.take outa.length).length bc := by rw [hcl]; exact hcv
      refine ⟨(by first | exact (H.ext 1 rfl).get hbx | exact hbx), ?_⟩
      refine hs_p rfl rfl rfl (y_assign rfl rfl) ?_
      refine hs_p rfl rfl rfl (y_assign rfl rfl) ?_
      refine hs_nil ?_
      refine thenX_n ?_
      refine cd_seq ?_
      refine cd_seq ?_
      refine cd_region ?_
      refine ol_y rfl rfl (y_move rfl rfl) ?_
      refine ol_y rfl rfl (y_lenV rfl Try.underlying30 rfl (by first | assumption | exact SlV.mk' _ _ _ _)) ?_
      refine ol_y rfl rfl (y_move rfl rfl) ?_
      refine ol_y rfl rfl (y_move rfl rfl) ?_
      refine ol_y rfl rfl (y_lenV rfl Try.underlying30 rfl (by first | assumption | exact SlV.mk' _ _ _ _)) ?_
      refine ol_y rfl rfl (y_min rfl rfl rfl) ?_
      refine ol_y rfl rfl (y_neq rfl rfl rfl) ?_
      refine ol_y rfl rfl (y_move rfl rfl) ?_
      refine ol_split (t := 65) rfl (fun hg13 => ?_) (fun hg13 => ?_)
      · (try have hg13_ := of_decide_eq_true hg13)
        exfalso; omega
      · (try have hg13_ := of_decide_eq_false hg13)
        refine ol_gy rfl rfl rfl rfl hg13 rfl (y_move rfl rfl) ?_
        refine ol_gy rfl rfl rfl rfl hg13 rfl (y_move rfl rfl) ?_
        refine ol_gy rfl rfl rfl rfl hg13 rfl (y_move rfl rfl) ?_
        refine ol_gy rfl rfl rfl rfl hg13 rfl (y_lenV rfl Try.underlying30 rfl (by first | assumption | exact SlV.mk' _ _ _ _)) ?_
        refine ol_gy rfl rfl rfl rfl hg13 rfl (y_cutV (m := outa.length) rfl Try.underlying30 sz41 rfl hbv rfl (by omega) (by omega)) ?_
        refine ol_gx rfl rfl rfl rfl hg13 rfl (x_call rfl go20 rfl (c_SameT hav har hcv (hbr.take _) (by omega) hab)) ?_
        rintro _ _ ⟨rfl, rfl⟩
        refine ol_gy rfl rfl rfl rfl hg13 rfl (y_not rfl rfl) ?_
        refine ol_y rfl rfl (y_pick_f rfl rfl hg13 rfl) ?_
        refine ol_nil ?_
        refine thenX_n ?_
        refine cd_false rfl rfl ?_
        refine cd_skip ?_
        refine thenX_n ?_
        refine cd_seq ?_
        refine cd_seq ?_
        refine cd_region ?_
        refine ol_y rfl rfl (y_move rfl rfl) ?_
        refine ol_y rfl rfl (y_indexAddrA rfl Try.underlying23 sz3 rfl rfl (by omega) (by omega)) ?_
        refine ol_y rfl rfl (y_load rfl rfl (fun _ e => ldeq e (ld1 scl3 (cellH_blk (by assumption) rfl)))) ?_
        refine ol_y rfl rfl (y_indexAddrA rfl Try.underlying23 sz3 rfl rfl (by omega) (by omega)) ?_
        refine ol_y rfl rfl (y_load rfl rfl (fun _ e => ldeq e (ld1 scl3 (cellH_blk (by assumption) rfl)))) ?_
        refine ol_x rfl rfl (x_call rfl go25 rfl (c_DistinctF H hm)) ?_
        clear H
        rintro dv h16 ⟨db, dc, D, hD, H⟩
        have hDl := (pairs_rank hD hRk).1
        have hbest := hbest0 D hD
        have hdv := H.rowV ePr_ok 0 rfl
        have hdr := H.rowR ePr_ok 0 rfl
        have hxd := H.ext 1 rfl
        clear hbest0
        refine ol_y rfl rfl (y_lenV rfl Try.underlying30 rfl (by first | assumption | exact SlV.mk' _ _ _ _)) ?_
        refine ol_y rfl rfl (y_move rfl rfl) ?_
        refine ol_nil ?_
        refine thenX_n ?_
        refine cd_block ?_
        refine cd_loop (γ := Nat) (fun i => [(12, bv), (79, dv), (80, .int .i64 D.length), (81, .int .i64 i)]) (fun i h' => i ≤ D.length ∧ Ext h16 h') (fun i => D.length - i) (0) ?_ ?_ ?_
        · (repeat (first | exact trivial | refine ⟨rfl, ?_⟩))
        · exact ⟨Nat.zero_le _, Ext.refl _⟩
        · skip
          rintro i ρ h17 ⟨hi, hxi⟩
          (try dsimp only)
          clear H
          have H := Sep.start h17
          have hdr1 := hxi.rd hdr
          have hbr0 := (hxd.trans hxi).rd hbr
          refine cd_seq ?_
          refine cd_region ?_
          refine ol_y rfl rfl (y_lss rfl rfl rfl) ?_
          refine ol_nil ?_
          refine thenX_n ?_
          refine cd_seq ?_
          refine cd_cond _ rfl (fun hc3 => ?_) (fun hc3 => ?_)
          · (try replace hc3 := of_decide_eq_true hc3)
            refine cd_skip ?_
            refine thenX_n ?_
            refine cd_seq ?_
            refine cd_block ?_
            refine cd_seq ?_
            refine cd_region ?_
            refine ol_y rfl rfl (y_indexV rfl Try.underlying30 sz41 rfl (by first | assumption | exact SlV.mk' _ _ _ _) rfl (by omega) (by omega)) ?_
            refine ol_y rfl rfl (y_load rfl rfl (fun _ e => ldeq e (ld_rowN agg41 ePr_ok (by assumption) (by omega) (by omega) rfl))) ?_
            refine ol_x rfl rfl (x_alloc rfl zero41 H) ?_
            clear H
            rintro _ h19 ⟨rfl, hz18, H⟩
            refine ol_x rfl rfl (by first | exact x_storeW rfl rfl rfl rfl sz41 rfl H 0 rfl rfl rfl | exact x_storeW rfl rfl rfl rfl sz41 rfl H 1 rfl rfl rfl | exact x_storeW rfl rfl rfl rfl sz41 rfl H 2 rfl rfl rfl | exact x_storeW rfl rfl rfl rfl sz41 rfl H 3 rfl rfl rfl | exact x_storeW rfl rfl rfl rfl sz41 rfl H 4 rfl rfl rfl | exact x_storeW rfl rfl rfl rfl sz41 rfl H 5 rfl rfl rfl) ?_
            clear H
            rintro _ h21 ⟨rfl, hz20, H⟩
            dsimp only [setP, List.set] at H
            have hpp := H.obj 0 rfl
            have hbr1 := (H.ext 1 rfl).rd hbr0
            have hmem := hbest _ (List.mem_of_getElem? (gt_get (xs := D) (i := (i : Int)) (by omega) (by omega)))
            refine ol_nil ?_
            refine thenX_n ?_
            refine cd_seq ?_
            refine cd_draw (none) (fun x => x = h21) [(0, 0), (1, 1), (2, 0), (3, 0), (4, 0), (5, 1), (6, 0), (7, 0), (8, 0), (9, 1), (10, 0), (11, 0), (12, 0), (13, 1), (14, 0), (15, 0), (16, 0), (17, 1), (18, 0), (19, 0), (20, 0), (21, 1), (22, 0), (23, 0), (24, 0)] mixed (by kernel_rfl) (by kernel_rfl) (by kernel_rfl) ?_ ?_
            · exact rfl
            refine hs_p rfl rfl rfl (y_fieldAddr rfl fo41_1 rfl) ?_
            refine hs_y rfl rfl rfl (y_load rfl rfl (fun _ e => ldeq e (ld1 scl3 (cellH_blk (by assumption) rfl)))) ?_
            refine hs_p rfl rfl rfl (y_move rfl rfl) ?_
            refine hs_p rfl rfl rfl (y_indexV rfl Try.underlying30 sz41 rfl (by first | assumption | exact SlV.mk' _ _ _ _) rfl (by omega) (by omega)) ?_
            refine hs_p rfl rfl rfl (y_fieldAddr rfl fo41_1 rfl) ?_
            refine hs_y rfl rfl rfl (y_load rfl rfl (fun _ e => ldeq e (ld_rowf scl3 (by assumption) (by omega) (by omega) rfl))) ?_
            refine hs_p rfl rfl rfl (y_gtr rfl rfl rfl) ?_
            refine hs_p rfl rfl rfl (y_move rfl rfl) ?_
            refine hs_split (t := 92) rfl (fun hg22 => ?_) (fun hg22 => ?_)
            · (try have hg22_ := of_decide_eq_true hg22)
              exfalso; omega
            · (try have hg22_ := of_decide_eq_false hg22)
              refine hs_gp rfl rfl rfl rfl rfl hg22 rfl (y_fieldAddr rfl fo41_1 rfl) ?_
              refine hs_gy rfl rfl rfl rfl rfl hg22 rfl (y_load rfl rfl (fun _ e => ldeq e (ld1 scl3 (cellH_blk (by assumption) rfl)))) ?_
              refine hs_gp rfl rfl rfl rfl rfl hg22 rfl (y_move rfl rfl) ?_
              refine hs_gp rfl rfl rfl rfl rfl hg22 rfl (y_indexV rfl Try.underlying30 sz41 rfl (by first | assumption | exact SlV.mk' _ _ _ _) rfl (by omega) (by omega)) ?_
              refine hs_gp rfl rfl rfl rfl rfl hg22 rfl (y_fieldAddr rfl fo41_1 rfl) ?_
              refine hs_gy rfl rfl rfl rfl rfl hg22 rfl (y_load rfl rfl (fun _ e => ldeq e (ld_rowf scl3 (by assumption) (by omega) (by omega) rfl))) ?_
              refine hs_gp rfl rfl rfl rfl rfl hg22 rfl (y_eql rfl rfl rfl) ?_
              refine hs_gp rfl rfl rfl rfl rfl hg22 rfl (y_move rfl rfl) ?_
              refine hs_split (t := 100) rfl (fun hg23 => ?_) (fun hg23 => ?_)
              · (try have hg23_ := of_decide_eq_true hg23)
                refine hs_gp rfl rfl rfl rfl rfl hg23 rfl (y_fieldAddr rfl fo41_0 rfl) ?_
                refine hs_gy rfl rfl rfl rfl rfl hg23 rfl (y_load rfl rfl (fun _ e => ldeq e (ld1 scl3 (cellH_blk (by assumption) rfl)))) ?_
                refine hs_gp rfl rfl rfl rfl rfl hg23 rfl (y_move rfl rfl) ?_
                refine hs_gp rfl rfl rfl rfl rfl hg23 rfl (y_indexV rfl Try.underlying30 sz41 rfl (by first | assumption | exact SlV.mk' _ _ _ _) rfl (by omega) (by omega)) ?_
                refine hs_gp rfl rfl rfl rfl rfl hg23 rfl (y_fieldAddr rfl fo41_0 rfl) ?_
                refine hs_gy rfl rfl rfl rfl rfl hg23 rfl (y_load rfl rfl (fun _ e => ldeq e (ld_rowf scl3 (by assumption) (by omega) (by omega) rfl))) ?_
                refine hs_gp rfl rfl rfl rfl rfl hg23 rfl (y_lss rfl rfl rfl) ?_
                refine hs_gp rfl rfl rfl rfl rfl hg22 rfl (y_pick_t rfl rfl hg23 rfl) ?_
                refine hs_p rfl rfl rfl (y_pick_f rfl rfl hg22 rfl) ?_
                refine hs_nil ?_
                refine thenX_n ?_
                refine cd_cond _ rfl (fun hc4 => ?_) (fun hc4 => ?_)
                · (try replace hc4 := of_decide_eq_true hc4)
                  exfalso
                  omega
                · (try replace hc4 := of_decide_eq_false hc4)
                  refine cd_skip ?_
                  refine blockX_n ?_
                  refine thenX_n ?_
                  refine cd_region ?_
                  refine ol_y rfl rfl (y_addi rfl rfl rfl (in64 (by omega) (by omega))) ?_
                  refine ol_y rfl rfl (y_move rfl rfl) ?_
                  refine ol_nil ?_
                  refine thenX_n ?_
                  exact ⟨i + 1, ⟨rfl, rfl, rfl, vint (by simp), trivial⟩, ⟨by omega, hxi.trans (H.ext 1 rfl)⟩, by omega⟩
              · (try have hg23_ := of_decide_eq_false hg23)
                refine hs_gn rfl rfl rfl rfl rfl hg23 rfl ?_
                refine hs_gn1 rfl rfl rfl rfl rfl hg23 rfl ?_
                refine hs_gn rfl rfl rfl rfl rfl hg23 rfl ?_
                refine hs_gn rfl rfl rfl rfl rfl hg23 rfl ?_
                refine hs_gn rfl rfl rfl rfl rfl hg23 rfl ?_
                refine hs_gn1 rfl rfl rfl rfl rfl hg23 rfl ?_
                refine hs_gn rfl rfl rfl rfl rfl hg23 rfl ?_
                refine hs_gp rfl rfl rfl rfl rfl hg22 rfl (y_pick_f rfl rfl hg23 rfl) ?_
                refine hs_p rfl rfl rfl (y_pick_f rfl rfl hg22 rfl) ?_
                refine hs_nil ?_
                refine thenX_n ?_
                refine cd_false rfl rfl ?_
                refine cd_skip ?_
                refine blockX_n ?_
                refine thenX_n ?_
                refine cd_region ?_
                refine ol_y rfl rfl (y_addi rfl rfl rfl (in64 (by omega) (by omega))) ?_
                refine ol_y rfl rfl (y_move rfl rfl) ?_
                refine ol_nil ?_
                refine thenX_n ?_
                exact ⟨i + 1, ⟨rfl, rfl, rfl, vint (by simp), trivial⟩, ⟨by omega, hxi.trans (H.ext 1 rfl)⟩, by omega⟩
          · (try replace hc3 := of_decide_eq_false hc3)
            refine cd_exit ?_
            refine thenX_e ?_
            refine thenX_e ?_
            refine blockX_hit ?_
            refine thenX_n ?_
            refine cd_seq ?_
            refine cd_region ?_
            refine ol_y rfl rfl (y_assign rfl rfl) ?_
            refine ol_nil ?_
            refine thenX_n ?_
            refine cd_ret ?_
            refine ret1 Try.results6 rfl ?_
            exact ⟨rfl, hE0.trans (hxd.trans hxi)⟩


end Go.X
