/- list.New, Some, Docs: printed walks. -/
import Derived.Test.YtclbncbolhmolaaM11
import Derived.Test.YtclbncbolhmolaaX13
namespace Go.X
open Go Go.Proofs
set_option linter.unusedVariables false
set_option linter.unusedSimpArgs false
set_option maxHeartbeats 1000000
attribute [local irreducible] rowP HP.obj HP.old allR
/-- a lister in memory -/
structure ListF (h : Heap) (lb : Nat) (da : List Int) : Prop where
  out : ∃ (T : TypeId) (dv bv : Value) (db dc bb bc tb : Nat), h[lb]? = some (.cells [dv, bv, .pointer (some ⟨tb, 0, none⟩)].toArray T (0, 0)) ∧ SlV dv db 0 da.length dc ∧ Rd eI 1 h db 0 da ∧ SlV bv bb 0 (backL da).length bc ∧ Rd eI 1 h bb 0 (backL da) ∧ TabF h tb (backL da)
  n : da.length ≤ 4194304
theorem ListF.ext {h h' : Heap} {lb : Nat} {da : List Int} (H : ListF h lb da) (e : Ext h h') : ListF h' lb da := by
  obtain ⟨T, dv, bv, db, dc, bb, bc, tb, h1, h2, h3, h4, h5, h6⟩ := H.out
  exact ⟨⟨T, dv, bv, db, dc, bb, bc, tb, e.get h1, h2, e.rd h3, h4, e.rd h5, h6.ext e⟩, H.n⟩
structure SG_ where
  ov : Value
  ob : Nat
  oc : Nat
  I : List Nat
  tv : Value
  tb : Nat
  tc : Nat
  ts : List Pr
def fm (da : List Int) (I : List Nat) : List Int := I.map fun i => gt da ((i : Nat) : Int)
theorem fm_len (da : List Int) (I : List Nat) : (fm da I).length = I.length := by simp [fm]
theorem fm_snoc (da : List Int) (I : List Nat) (r : Nat) : fm da (I ++ [r]) = fm da I ++ [gt da (r : Int)] := by simp [fm]
theorem ts_snoc {ts : List Pr} (h : 0 < ts.length) : ts = ts.take (ts.length - 1) ++ [gt ts ((ts.length - 1 : Nat) : Int)] := by
  have hg := gt_get (xs := ts) (i := ((ts.length - 1 : Nat) : Int)) (by omega) (by omega)
  rw [Int.toNat_natCast] at hg
  have h1 := List.take_add_one (l := ts) (i := ts.length - 1)
  rw [show ts.length - 1 + 1 = ts.length by omega, List.take_length, hg] at h1
  exact h1

theorem c_listNew {h : Heap} {v : Value} {b p c : Nat} {l : List Int} (hv : SlV v b p l.length c) (hr : Rd eI 1 h b p l) (hl : l.length ≤ 4194304) :
    FnT Try.prog 27 [v] h (fun v' h' => ∃ lb, v' = .tuple #[.pointer (some ⟨lb, 0, none⟩), .int .i64 0] ∧ Ext h h' ∧ ∀ h2, Kept h h' h2 → ListF h2 lb l) := by
  have H := Sep.start h
  refine fn_enter Try.func27 rfl Try.ntmps27 rfl ?_
  refine cd_seq ?_
  refine cd_region ?_
  refine ol_y rfl rfl (y_assign rfl rfl) ?_
  refine ol_y rfl rfl (y_assign rfl rfl) ?_
  refine ol_nil ?_
  refine thenX_n ?_
  refine cd_seq ?_
  refine cd_region ?_
  refine ol_y rfl rfl (y_move rfl rfl) ?_
  refine ol_x rfl rfl (x_call rfl go65 rfl (c_Back H hv hr hl)) ?_
  clear H
  rintro bv h1 ⟨bb, bc, H⟩
  have hbv := H.rowV eI_ok 0 rfl
  have hbr := H.rowR eI_ok 0 rfl
  have hE := H.ext 1 rfl
  have HB := H.front 1
  dsimp only [nthP, eraseP] at HB
  clear H
  have hr1 := hE.rd hr
  refine ol_y rfl rfl (y_assign rfl rfl) ?_
  refine ol_nil ?_
  refine thenX_n ?_
  refine cd_seq ?_
  refine cd_region ?_
  refine ol_y rfl rfl (y_move rfl rfl) ?_
  refine ol_x rfl rfl (x_call rfl go66 rfl (c_rmqNew hbv hbr (by rw [backL_len]; exact hl))) ?_
  rintro _ h2 ⟨tb, rfl, hx2, ht⟩
  have hE1 := hE
  replace hE := hE.trans hx2
  replace hr1 := hx2.rd hr1
  replace hbr := hx2.rd hbr
  have H := Sep.start h2
  refine ol_y rfl rfl (y_move rfl rfl) ?_
  refine ol_y rfl rfl (y_extract rfl rfl rfl) ?_
  refine ol_y rfl rfl (y_extract rfl rfl rfl) ?_
  refine ol_y rfl rfl (y_assign rfl rfl) ?_
  refine ol_y rfl rfl (y_assign rfl rfl) ?_
  refine ol_nil ?_
  refine thenX_n ?_
  refine cd_seq ?_
  refine cd_seq ?_
  refine cd_region ?_
  refine ol_y rfl rfl (y_move rfl rfl) ?_
  refine ol_y rfl rfl (y_neq rfl rfl rfl) ?_
  refine ol_nil ?_
  refine thenX_n ?_
  refine cd_false rfl (by decide) ?_
  refine cd_skip ?_
  refine thenX_n ?_
  refine cd_seq ?_
  refine cd_region ?_
  refine ol_y rfl rfl (y_move rfl rfl) ?_
  refine ol_x rfl rfl (x_call rfl go49 rfl (c_CloneI H hv hr1 hl)) ?_
  clear H
  rintro dv h4 ⟨_, db, dc, H⟩
  have hdv := H.rowV eI_ok 0 rfl
  have hdv0 := hdv
  have hbv0 := hbv
  obtain ⟨da_, edv, hda1, hda2⟩ := hdv0.out
  obtain ⟨ba_, ebv, hba1, hba2⟩ := hbv0.out
  subst edv
  subst ebv
  refine ol_y rfl rfl (y_move rfl rfl) ?_
  refine ol_y rfl rfl (y_move rfl rfl) ?_
  refine ol_y rfl rfl (y_build (cs := [_, _, _]) rfl pl113 zero113 rfl) ?_
  refine ol_x rfl rfl (x_box rfl rfl rfl H) ?_
  clear H
  rintro _ h6 ⟨rfl, hz5, H⟩
  have hx5 := H.ext 2 rfl
  refine ol_y rfl rfl (y_assign rfl rfl) ?_
  refine ol_y rfl rfl (y_assign rfl rfl) ?_
  refine ol_nil ?_
  refine thenX_n ?_
  refine cd_ret ?_
  refine ret2 Try.results27 rfl rfl ?_
  refine ⟨_, rfl, hE.trans hx5, fun h20 hk => ?_⟩
  have hx12 := hx2.trans hx5
  have k1 := (hk.left hx12)
  have k2 := ((hk.right hE1).left hx5)
  have k3 := hk.right (hE1.trans hx2)
  replace H := H.front 2
  dsimp only [nthP, eraseP] at H
  replace H := H.moved k3
  exact ⟨⟨_, _, _, db, dc, bb, bc, tb, H.obj 0 rfl, hdv, H.rowR eI_ok 1 rfl, hbv, (HB.moved k1).rowR eI_ok 0 rfl, ht _ k2⟩, hl⟩


theorem c_Some {h h0 : Heap} {lb : Nat} {l : List Int} {a b_ most : Int} {L : List HP} (H : Sep h (HP.old h0 :: L)) (hf : ListF h0 lb l) :
    FnT Try.prog 64 [.pointer (some ⟨lb, 0, none⟩), .int .i64 a, .int .i64 b_, .int .i64 most] h (fun v' h' => ∃ ob oc I, SomeR l (max a 0) (min b_ (l.length : Int)) most I ∧ Sep h' (rowP eI 1 3 v' ob oc (outL l I) :: HP.old h0 :: L)) := by
  have hn := hf.n
  obtain ⟨T, dv, bv, db, dc, bb, bc, tab, hlb, hdv, hdr, hbv, hbr, htab⟩ := hf.out
  have hlb0 := (H.ext 0 rfl).get hlb
  have hbl := backL_len l
  have hm0 := msr_len [(max a 0, min b_ (l.length : Int))]
  refine fn_enter Try.func64 rfl Try.ntmps64 rfl ?_
  refine cd_seq ?_
  refine cd_region ?_
  refine ol_y rfl rfl (y_assign rfl rfl) ?_
  refine ol_nil ?_
  refine thenX_n ?_
  refine cd_seq ?_
  refine cd_seq ?_
  refine cd_region ?_
  refine ol_y rfl rfl (y_move rfl rfl) ?_
  refine ol_y rfl rfl (y_nilP rfl Try.underlying50 rfl rfl) ?_
  refine ol_nil ?_
  refine thenX_n ?_
  refine cd_false rfl rfl ?_
  refine cd_skip ?_
  refine thenX_n ?_
  refine cd_seq ?_
  refine cd_draw (none) (fun x => x = h) [(0, 0), (1, 0), (2, 0), (3, 0), (4, 0), (5, 0), (6, 1), (7, 0), (8, 0), (9, 0), (10, 0)] mixed (by kernel_rfl) (by kernel_rfl) (by kernel_rfl) ?_ ?_
  · exact rfl
  refine hs_p rfl rfl rfl (y_move rfl rfl) ?_
  refine hs_p rfl rfl rfl (y_max rfl rfl rfl) ?_
  refine hs_p rfl rfl rfl (y_move rfl rfl) ?_
  refine hs_p rfl rfl rfl (y_move rfl rfl) ?_
  refine hs_p rfl rfl rfl (y_nilCheck rfl rfl) ?_
  refine hs_p rfl rfl rfl (y_fieldAddr rfl fo113_0 rfl) ?_
  refine hs_y rfl rfl rfl (y_load rfl rfl (fun _ e => ldeq e (ld1 scl22 (cellH_blk (by assumption) rfl)))) ?_
  refine hs_p rfl rfl rfl (y_lenV rfl Try.underlying22 rfl (by first | assumption | exact SlV.mk' _ _ _ _)) ?_
  refine hs_p rfl rfl rfl (y_min rfl rfl rfl) ?_
  refine hs_p rfl rfl rfl (y_assign rfl rfl) ?_
  refine hs_p rfl rfl rfl (y_assign rfl rfl) ?_
  refine hs_nil ?_
  refine thenX_n ?_
  refine cd_seq ?_
  refine cd_region ?_
  refine ol_y rfl rfl (y_assign rfl rfl) ?_
  refine ol_nil ?_
  refine thenX_n ?_
  refine cd_seq ?_
  refine cd_seq ?_
  refine cd_region ?_
  refine ol_y rfl rfl (y_move rfl rfl) ?_
  refine ol_y rfl rfl (y_move rfl rfl) ?_
  refine ol_y rfl rfl (y_build (cs := [_, _]) rfl pl142 zero142 rfl) ?_
  refine ol_x rfl rfl (x_buildSlice (cs := [_, _]) rfl Try.underlying143 info142 rfl rfl rfl rfl H) ?_
  clear H
  rintro v53 h1 ⟨hv53, hz53, H⟩
  obtain ⟨qb, hqb⟩ : ∃ b, h.size = b := ⟨_, rfl⟩
  rw [hqb] at hv53 H
  subst hv53
  replace H := Sep.rowBlk (enc := ePr) (xs := [(max a 0, min b_ (l.length : Int))]) ePr_ok rfl (by simp [maxLen]) H
  refine ol_y rfl rfl (y_assign rfl rfl) ?_
  refine ol_nil ?_
  refine thenX_n ?_
  refine cd_block ?_
  refine cd_loop (γ := SG_) (fun g => [(0, .pointer (some ⟨lb, 0, none⟩)), (1, .int .i64 (max a 0)), (3, .int .i64 most), (9, g.ov), (10, g.tv)]) (fun g h' => SomeI l (max a 0) (min b_ (l.length : Int)) g.I g.ts ∧ msr g.ts ≤ 2 * l.length + 1 ∧ ((g.I.length : Int) ≤ most ∨ g.I = []) ∧ Sep h' (rowP ePr 2 142 g.tv g.tb g.tc g.ts :: rowP eI 1 3 g.ov g.ob g.oc (fm l g.I) :: HP.old h0 :: L)) (fun g => msr g.ts) (⟨.slice none 0 0, 0, 0, [], .slice (some ⟨qb, 0, none⟩) 1 1, qb, 1, [(max a 0, min b_ (l.length : Int))]⟩) ?_ ?_ ?_
  · (repeat (first | exact trivial | refine ⟨rfl, ?_⟩))
  · refine ⟨SomeI.start _ _ _, by (try dsimp only); simp only [msr]; omega, .inr rfl, ?_⟩
    have H1 := (H.rowNil eI 1 3 0).swap
    exact H1
  · skip
    rintro ⟨ov, ob, oc, I, tv, tb_, tc, ts⟩ ρ h2 ⟨hI, hms0, hle, H⟩
    (try dsimp only)
    dsimp only at hI hms0 hle H
    have htv := H.rowV ePr_ok 0 rfl
    have htr := H.rowR ePr_ok 0 rfl
    have htc := H.rowC 0 rfl
    have hov := H.rowV eI_ok 1 rfl
    rw [fm_len] at hov
    have hIl := hI.len (n := l.length) (by omega) (by omega)
    have hml := msr_len ts
    refine cd_seq ?_
    refine cd_seq ?_
    refine cd_region ?_
    refine ol_y rfl rfl (y_move rfl rfl) ?_
    refine ol_y rfl rfl (y_lenV rfl Try.underlying143 rfl (by first | assumption | exact SlV.mk' _ _ _ _)) ?_
    refine ol_y rfl rfl (y_gtr rfl rfl rfl) ?_
    refine ol_y rfl rfl (y_move rfl rfl) ?_
    refine ol_split (t := 31) rfl (fun hg3 => ?_) (fun hg3 => ?_)
    · (try have hg3_ := of_decide_eq_true hg3)
      refine ol_gy rfl rfl rfl rfl hg3 rfl (y_move rfl rfl) ?_
      refine ol_gy rfl rfl rfl rfl hg3 rfl (y_lenV rfl Try.underlying22 rfl (by first | assumption | exact SlV.mk' _ _ _ _)) ?_
      refine ol_gy rfl rfl rfl rfl hg3 rfl (y_move rfl rfl) ?_
      refine ol_gy rfl rfl rfl rfl hg3 rfl (y_lss rfl rfl rfl) ?_
      refine ol_y rfl rfl (y_pick_t rfl rfl hg3 rfl) ?_
      refine ol_nil ?_
      refine thenX_n ?_
      refine cd_cond _ rfl (fun hc1 => ?_) (fun hc1 => ?_)
      · (try replace hc1 := of_decide_eq_true hc1)
        refine cd_skip ?_
        refine thenX_n ?_
        refine cd_block ?_
        refine cd_seq ?_
        refine cd_region ?_
        refine ol_y rfl rfl (y_move rfl rfl) ?_
        refine ol_y rfl rfl (y_move rfl rfl) ?_
        refine ol_y rfl rfl (y_lenV rfl Try.underlying143 rfl (by first | assumption | exact SlV.mk' _ _ _ _)) ?_
        refine ol_y rfl rfl (Yl.eq (y_subi rfl rfl rfl (in64 (by omega) (by omega))) (vint (show _ = ((ts.length - 1 : Nat) : Int) by omega))) ?_
        refine ol_y rfl rfl (y_indexV rfl Try.underlying143 sz142 rfl (by first | assumption | exact SlV.mk' _ _ _ _) rfl (by omega) (by omega)) ?_
        refine ol_y rfl rfl (y_load rfl rfl (fun _ e => ldeq e (ld_rowN agg142 ePr_ok (by assumption) (by omega) (by omega) rfl))) ?_
        refine ol_x rfl rfl (x_alloc rfl zero142 H) ?_
        clear H
        rintro v11 h4 ⟨hv11, hz76, H⟩
        obtain ⟨sb, hsb⟩ : ∃ b, h2.size = b := ⟨_, rfl⟩
        rw [hsb] at hv11 H
        subst hv11
        refine ol_x rfl rfl (by first | exact x_storeW rfl rfl rfl rfl sz142 rfl H 0 rfl rfl rfl | exact x_storeW rfl rfl rfl rfl sz142 rfl H 1 rfl rfl rfl | exact x_storeW rfl rfl rfl rfl sz142 rfl H 2 rfl rfl rfl | exact x_storeW rfl rfl rfl rfl sz142 rfl H 3 rfl rfl rfl | exact x_storeW rfl rfl rfl rfl sz142 rfl H 4 rfl rfl rfl | exact x_storeW rfl rfl rfl rfl sz142 rfl H 5 rfl rfl rfl) ?_
        clear H
        rintro _ h6 ⟨rfl, hz5, H⟩
        dsimp only [setP, List.set] at H
        have hsb1 := H.obj 0 rfl
        have hlb1 := (H.ext 3 rfl).get hlb
        have htab1 := htab.ext (H.ext 3 rfl)
        have hdr1 := (H.ext 3 rfl).rd hdr
        have hbr1 := (H.ext 3 rfl).rd hbr
        refine ol_nil ?_
        refine thenX_n ?_
        refine cd_seq ?_
        refine cd_region ?_
        refine ol_y rfl rfl (y_move rfl rfl) ?_
        refine ol_y rfl rfl (y_move rfl rfl) ?_
        refine ol_y rfl rfl (y_lenV rfl Try.underlying143 rfl (by first | assumption | exact SlV.mk' _ _ _ _)) ?_
        refine ol_y rfl rfl (Yl.eq (y_subi rfl rfl rfl (in64 (by omega) (by omega))) (vint (show _ = ((ts.length - 1 : Nat) : Int) by omega))) ?_
        obtain ⟨tv0, htv0⟩ : ∃ v, cutV tv (ts.length - 1) = v := ⟨_, rfl⟩
        refine ol_y rfl rfl (Yl.eq (y_cutV (m := ts.length - 1) rfl Try.underlying143 sz142 rfl htv rfl rfl (by omega)) htv0) ?_
        refine ol_y rfl rfl (y_assign rfl rfl) ?_
        replace H := H.front 1
        dsimp only [nthP, eraseP] at H
        replace H := rowP_cut (n := ts.length - 1) ePr_ok (by omega) H
        have hts := ts_snoc (ts := ts) (by omega)
        have hcl : (ts.take (ts.length - 1)).length = ts.length - 1 := by rw [List.length_take]; omega
        generalize hts0 : ts.take (ts.length - 1) = ts0 at *
        generalize hs0 : (gt ts ((ts.length - 1 : Nat) : Int)) = s0 at *
        rw [htv0] at H
        have htv1 := H.rowV ePr_ok 0 rfl
        have hms : msr ts = msr ts0 + (2 * (s0.2 - s0.1).toNat + 1) := by rw [hts, msr_append]; simp [msr]
        have hI2 : SomeI l (max a 0) (min b_ (l.length : Int)) I (ts0 ++ [s0]) := hts ▸ hI
        have hrng := hI2.rng s0 (by simp)
        refine ol_nil ?_
        refine thenX_n ?_
        refine cd_seq ?_
        refine cd_draw (none) (fun x => x = h6) [(0, 0), (1, 0), (2, 0), (3, 1), (4, 0), (5, 1), (6, 0), (7, 1), (8, 2), (9, 0)] mixed (by kernel_rfl) (by kernel_rfl) (by kernel_rfl) ?_ ?_
        · exact rfl
        refine hs_p rfl rfl rfl (y_move rfl rfl) ?_
        refine hs_p rfl rfl rfl (y_nilCheck rfl rfl) ?_
        refine hs_p rfl rfl rfl (y_fieldAddr rfl fo113_2 rfl) ?_
        refine hs_y rfl rfl rfl (y_load rfl rfl (fun _ e => ldeq e (ld1 scl109 (cellH_blk (by assumption) rfl)))) ?_
        refine hs_p rfl rfl rfl (y_fieldAddr rfl fo142_0 rfl) ?_
        refine hs_y rfl rfl rfl (y_load rfl rfl (fun _ e => ldeq e (ld1 scl3 (cellH_blk (by assumption) rfl)))) ?_
        refine hs_p rfl rfl rfl (y_fieldAddr rfl fo142_1 rfl) ?_
        refine hs_y rfl rfl rfl (y_load rfl rfl (fun _ e => ldeq e (ld1 scl3 (cellH_blk (by assumption) rfl)))) ?_
        refine hs_x rfl rfl rfl (x_call rfl go93 rfl (c_Least htab1)) ?_
        rintro _ _ ⟨ri, rfl, rfl, hL⟩
        have hLb : ri = -1 ∨ (max s0.1 0 ≤ ri ∧ ri < min s0.2 (backL l).length) := by
          rcases hL with ⟨h1, _⟩ | ⟨_, h2, _⟩
          · exact .inl h1
          · exact .inr h2
        refine ⟨rfl, ?_⟩
        refine hs_p rfl rfl rfl (y_assign rfl rfl) ?_
        refine hs_nil ?_
        refine thenX_n ?_
        refine cd_seq ?_
        refine cd_seq ?_
        refine cd_region ?_
        refine ol_y rfl rfl (y_move rfl rfl) ?_
        refine ol_y rfl rfl (y_lss rfl rfl rfl) ?_
        refine ol_y rfl rfl (y_move rfl rfl) ?_
        refine ol_split (t := 59) rfl (fun hg8 => ?_) (fun hg8 => ?_)
        · (try have hg8_ := of_decide_eq_true hg8)
          have hnoF : ∀ i, inSp s0 i → ¬ FI l (max a 0) (min b_ (l.length : Int)) i := by
            intro i hi hfi
            unfold inSp at hi
            unfold FI at hfi
            rcases hL with ⟨h1, h2⟩ | ⟨h1, h2, h3⟩
            · exact h2 i (by omega)
            · have h4 := h3 i (by omega)
              have h5 := gt_backL (l := l) (i := i) (by omega)
              omega
          refine ol_gn rfl rfl rfl rfl hg8 rfl ?_
          refine ol_gn rfl rfl rfl rfl hg8 rfl ?_
          refine ol_gn rfl rfl rfl rfl hg8 rfl ?_
          refine ol_gn rfl rfl rfl rfl hg8 rfl ?_
          refine ol_gn rfl rfl rfl rfl hg8 rfl ?_
          refine ol_gn rfl rfl rfl rfl hg8 rfl ?_
          refine ol_gn rfl rfl rfl rfl hg8 rfl ?_
          refine ol_gn rfl rfl rfl rfl hg8 rfl ?_
          refine ol_gn rfl rfl rfl rfl hg8 rfl ?_
          refine ol_y rfl rfl (y_pick_t rfl rfl hg8 rfl) ?_
          refine ol_nil ?_
          refine thenX_n ?_
          refine cd_true rfl rfl ?_
          refine cd_exit ?_
          refine thenX_e ?_
          refine blockX_hit ?_
          refine thenX_n ?_
          have H1 := (H.front 1).drop
          dsimp only [nthP, eraseP] at H1
          first
            | (have hms3 : msr (ts0 ++ [(s0.1, (r : Int)), ((r : Int) + 1, s0.2)]) = msr ts0 + (2 * ((r : Int) - s0.1).toNat + 1 + (2 * (s0.2 - ((r : Int) + 1)).toNat + 1)) := by rw [msr_append]; simp [msr]
               refine ⟨⟨ov2, ob2, oc2, I ++ [r], tv2, tb2, tc2, ts0 ++ [(s0.1, (r : Int)), ((r : Int) + 1, s0.2)]⟩, ⟨rfl, rfl, rfl, rfl, rfl, trivial⟩, ⟨hI3, by (try dsimp only); omega, .inl (by (try dsimp only); rw [List.length_append, List.length_singleton]; omega), ?_⟩, by (try dsimp only); omega⟩
               (try dsimp only)
               rw [fm_snoc]
               exact H1)
            | (clear hL hLb
               refine ⟨⟨ov, ob, oc, I, tv0, tb_, tc, ts0⟩, ⟨rfl, rfl, rfl, rfl, rfl, trivial⟩, ⟨hI2.drop hnoF, ?_, hle, H1⟩, ?_⟩
               · (try dsimp only); omega
               · (try dsimp only); omega)
        · (try have hg8_ := of_decide_eq_false hg8)
          refine ol_gy rfl rfl rfl rfl hg8 rfl (y_move rfl rfl) ?_
          refine ol_gy rfl rfl rfl rfl hg8 rfl (y_nilCheck rfl rfl) ?_
          refine ol_gy rfl rfl rfl rfl hg8 rfl (y_fieldAddr rfl fo113_1 rfl) ?_
          refine ol_gy rfl rfl rfl rfl hg8 rfl (y_load rfl rfl (fun _ e => ldeq e (ld1 scl22 (cellH_blk (by assumption) rfl)))) ?_
          refine ol_gy rfl rfl rfl rfl hg8 rfl (y_move rfl rfl) ?_
          refine ol_gy rfl rfl rfl rfl hg8 rfl (y_indexV rfl Try.underlying22 sz3 rfl (by first | assumption | exact SlV.mk' _ _ _ _) rfl (by omega) (by omega)) ?_
          refine ol_gy rfl rfl rfl rfl hg8 rfl (y_load rfl rfl (fun _ e => ldeq e (ld_row scl3 (by assumption) (by omega) (by omega)))) ?_
          refine ol_gy rfl rfl rfl rfl hg8 rfl (y_move rfl rfl) ?_
          refine ol_gy rfl rfl rfl rfl hg8 rfl (y_geq rfl rfl rfl) ?_
          refine ol_y rfl rfl (y_pick_f rfl rfl hg8 rfl) ?_
          refine ol_nil ?_
          refine thenX_n ?_
          refine cd_cond _ rfl (fun hc2 => ?_) (fun hc2 => ?_)
          · (try replace hc2 := of_decide_eq_true hc2)
            have hnoF : ∀ i, inSp s0 i → ¬ FI l (max a 0) (min b_ (l.length : Int)) i := by
              intro i hi hfi
              unfold inSp at hi
              unfold FI at hfi
              rcases hL with ⟨h1, h2⟩ | ⟨h1, h2, h3⟩
              · exact h2 i (by omega)
              · have h4 := h3 i (by omega)
                have h5 := gt_backL (l := l) (i := i) (by omega)
                (rw [h5] at h4; omega)
            refine cd_exit ?_
            refine thenX_e ?_
            refine blockX_hit ?_
            refine thenX_n ?_
            have H1 := (H.front 1).drop
            dsimp only [nthP, eraseP] at H1
            first
              | (have hms3 : msr (ts0 ++ [(s0.1, (r : Int)), ((r : Int) + 1, s0.2)]) = msr ts0 + (2 * ((r : Int) - s0.1).toNat + 1 + (2 * (s0.2 - ((r : Int) + 1)).toNat + 1)) := by rw [msr_append]; simp [msr]
                 refine ⟨⟨ov2, ob2, oc2, I ++ [r], tv2, tb2, tc2, ts0 ++ [(s0.1, (r : Int)), ((r : Int) + 1, s0.2)]⟩, ⟨rfl, rfl, rfl, rfl, rfl, trivial⟩, ⟨hI3, by (try dsimp only); omega, .inl (by (try dsimp only); rw [List.length_append, List.length_singleton]; omega), ?_⟩, by (try dsimp only); omega⟩
                 (try dsimp only)
                 rw [fm_snoc]
                 exact H1)
              | (clear hL hLb
                 refine ⟨⟨ov, ob, oc, I, tv0, tb_, tc, ts0⟩, ⟨rfl, rfl, rfl, rfl, rfl, trivial⟩, ⟨hI2.drop hnoF, ?_, hle, H1⟩, ?_⟩
                 · (try dsimp only); omega
                 · (try dsimp only); omega)
          · (try replace hc2 := of_decide_eq_false hc2)
            obtain ⟨r, rfl⟩ := Int.eq_ofNat_of_zero_le (show 0 ≤ ri by omega)
            have hLr : max s0.1 0 ≤ (r : Int) ∧ (r : Int) < min s0.2 (backL l).length := by
              rcases hL with ⟨h1, h2⟩ | ⟨h1, h2, h3⟩
              · omega
              · exact h2
            have hbk := gt_backL (l := l) (i := r) (by omega)
            have hrF : FI l (max a 0) (min b_ (l.length : Int)) r := ⟨by omega, by omega, by rw [← hbk]; omega⟩
            have hrS : inSp s0 r := ⟨by omega, by omega⟩
            have hI3 := hI2.split hrS hrF
            have hlen3 := hI3.len (n := l.length) (by omega) (by omega)
            rw [List.length_append, List.length_singleton] at hlen3
            refine cd_skip ?_
            refine thenX_n ?_
            refine cd_seq ?_
            refine cd_region ?_
            refine ol_y rfl rfl (y_move rfl rfl) ?_
            refine ol_y rfl rfl (y_move rfl rfl) ?_
            refine ol_y rfl rfl (y_nilCheck rfl rfl) ?_
            refine ol_y rfl rfl (y_fieldAddr rfl fo113_0 rfl) ?_
            refine ol_y rfl rfl (y_load rfl rfl (fun _ e => ldeq e (ld1 scl22 (cellH_blk (by assumption) rfl)))) ?_
            refine ol_y rfl rfl (y_move rfl rfl) ?_
            refine ol_y rfl rfl (y_indexV rfl Try.underlying22 sz3 rfl (by first | assumption | exact SlV.mk' _ _ _ _) rfl (by omega) (by omega)) ?_
            refine ol_y rfl rfl (y_load rfl rfl (fun _ e => ldeq e (ld_row scl3 (by assumption) (by omega) (by omega)))) ?_
            refine ol_x rfl rfl (x_buildSlice (cs := [_]) rfl Try.underlying22 info3 rfl rfl rfl rfl H) ?_
            clear H
            rintro _ h9 ⟨rfl, hz_b, H⟩
            replace H := Sep.rowBlk (enc := eI) (xs := [(gt l (r : Int))]) eI_ok rfl (one_maxLen _) H
            have hv11_9 := H.rowV eI_ok 0 rfl
            have hr11_9 := H.rowR eI_ok 0 rfl
            replace H := H.drop
            have HF := H.front 2
            dsimp only [nthP, eraseP] at HF
            refine ol_x rfl rfl (x_append (enc := eI) rfl Try.underlying22 info3 rfl (by decide) eI_ok rfl rfl hv11_9 hr11_9 rfl (by simp only [List.length_cons, List.length_nil, fm_len, maxLen]; omega) (by simp only [List.length_cons, List.length_nil, fm_len, maxLen]; omega) HF) ?_
            clear H HF hv11_9 hr11_9
            rintro ov2 h10 ⟨hz_, ob2, oc2, H⟩
            replace H := H.ins 2
            dsimp only [insP] at H
            have hov2 := H.rowV eI_ok 2 rfl
            refine ol_y rfl rfl (y_assign rfl rfl) ?_
            have hsb2 := H.obj 1 rfl
            refine ol_nil ?_
            refine thenX_n ?_
            refine cd_region ?_
            refine ol_y rfl rfl (y_move rfl rfl) ?_
            refine ol_y rfl rfl (y_fieldAddr rfl fo142_0 rfl) ?_
            refine ol_y rfl rfl (y_load rfl rfl (fun _ e => ldeq e (ld1 scl3 (cellH_blk (by assumption) rfl)))) ?_
            refine ol_y rfl rfl (y_move rfl rfl) ?_
            refine ol_y rfl rfl (y_build (cs := [_, _]) rfl pl142 zero142 rfl) ?_
            refine ol_y rfl rfl (y_move rfl rfl) ?_
            refine ol_y rfl rfl (y_addi rfl rfl rfl (in64 (by omega) (by omega))) ?_
            refine ol_y rfl rfl (y_fieldAddr rfl fo142_1 rfl) ?_
            refine ol_y rfl rfl (y_load rfl rfl (fun _ e => ldeq e (ld1 scl3 (cellH_blk (by assumption) rfl)))) ?_
            refine ol_y rfl rfl (y_build (cs := [_, _]) rfl pl142 zero142 rfl) ?_
            refine ol_x rfl rfl (x_buildSlice (cs := [_, _, _, _]) rfl Try.underlying143 info142 rfl rfl rfl rfl H) ?_
            clear H
            rintro _ h11 ⟨rfl, hzb1210, H⟩
            replace H := Sep.rowBlk (enc := ePr) (xs := [(s0.1, (r : Int)), ((r : Int) + 1, s0.2)]) ePr_ok rfl (by simp [maxLen]) H
            have hv12_10 := H.rowV ePr_ok 0 rfl
            have hr12_10 := H.rowR ePr_ok 0 rfl
            replace H := H.drop
            have HF := H.front 0
            dsimp only [nthP, eraseP] at HF
            refine ol_x rfl rfl (x_append (enc := ePr) rfl Try.underlying143 info142 rfl (by decide) ePr_ok rfl rfl hv12_10 hr12_10 rfl (by simp only [List.length_cons, List.length_nil]; omega) (by simp only [List.length_cons, List.length_nil, maxLen]; omega) HF) ?_
            clear H HF hv12_10 hr12_10
            rintro tv2 h12 ⟨hz1211, tb2, tc2, H⟩
            refine ol_y rfl rfl (y_assign rfl rfl) ?_
            refine ol_nil ?_
            refine blockX_n ?_
            refine thenX_n ?_
            have H1 := (H.front 1).drop
            dsimp only [nthP, eraseP] at H1
            first
              | (have hms3 : msr (ts0 ++ [(s0.1, (r : Int)), ((r : Int) + 1, s0.2)]) = msr ts0 + (2 * ((r : Int) - s0.1).toNat + 1 + (2 * (s0.2 - ((r : Int) + 1)).toNat + 1)) := by rw [msr_append]; simp [msr]
                 refine ⟨⟨ov2, ob2, oc2, I ++ [r], tv2, tb2, tc2, ts0 ++ [(s0.1, (r : Int)), ((r : Int) + 1, s0.2)]⟩, ⟨rfl, rfl, rfl, rfl, rfl, trivial⟩, ⟨hI3, by (try dsimp only); omega, .inl (by (try dsimp only); rw [List.length_append, List.length_singleton]; omega), ?_⟩, by (try dsimp only); omega⟩
                 (try dsimp only)
                 rw [fm_snoc]
                 exact H1)
              | (clear hL hLb
                 refine ⟨⟨ov, ob, oc, I, tv0, tb_, tc, ts0⟩, ⟨rfl, rfl, rfl, rfl, rfl, trivial⟩, ⟨hI2.drop hnoF, ?_, hle, H1⟩, ?_⟩
                 · (try dsimp only); omega
                 · (try dsimp only); omega)
      · (try replace hc1 := of_decide_eq_false hc1)
        refine cd_exit ?_
        refine thenX_e ?_
        refine thenX_e ?_
        refine blockX_hit ?_
        refine thenX_n ?_
        refine cd_seq ?_
        refine cd_region ?_
        replace H := H.swap
        refine ol_y rfl rfl (y_move rfl rfl) ?_
        refine ol_x rfl rfl (x_call rfl go75 rfl (c_sortI H (by rw [fm_len]; omega))) ?_
        clear H
        rintro _ h14 ⟨rfl, H⟩
        refine ol_nil ?_
        refine thenX_n ?_
        refine cd_seq ?_
        refine cd_region ?_
        refine ol_y rfl rfl (y_move rfl rfl) ?_
        refine ol_y rfl rfl (y_assign rfl rfl) ?_
        refine ol_nil ?_
        refine thenX_n ?_
        refine cd_ret ?_
        refine ret1 Try.results64 rfl ?_
        have H1 := (H.front 1).drop
        dsimp only [nthP, eraseP] at H1
        refine ⟨ob, oc, I, ⟨hI.nd, hI.sub, ?_, hle⟩, H1⟩
        first
          | (right; omega)
          | (left
             intro i hi
             have hts : ts = [] := List.eq_nil_of_length_eq_zero (by omega)
             rcases hI.cov i hi with h1 | ⟨s, h1, _⟩
             · exact h1
             · rw [hts] at h1; cases h1)
    · (try have hg3_ := of_decide_eq_false hg3)
      refine ol_gn rfl rfl rfl rfl hg3 rfl ?_
      refine ol_gn rfl rfl rfl rfl hg3 rfl ?_
      refine ol_gn rfl rfl rfl rfl hg3 rfl ?_
      refine ol_gn rfl rfl rfl rfl hg3 rfl ?_
      refine ol_y rfl rfl (y_pick_f rfl rfl hg3 rfl) ?_
      refine ol_nil ?_
      refine thenX_n ?_
      refine cd_false rfl rfl ?_
      refine cd_exit ?_
      refine thenX_e ?_
      refine thenX_e ?_
      refine blockX_hit ?_
      refine thenX_n ?_
      refine cd_seq ?_
      refine cd_region ?_
      replace H := H.swap
      refine ol_y rfl rfl (y_move rfl rfl) ?_
      refine ol_x rfl rfl (x_call rfl go75 rfl (c_sortI H (by rw [fm_len]; omega))) ?_
      clear H
      rintro _ h16 ⟨rfl, H⟩
      refine ol_nil ?_
      refine thenX_n ?_
      refine cd_seq ?_
      refine cd_region ?_
      refine ol_y rfl rfl (y_move rfl rfl) ?_
      refine ol_y rfl rfl (y_assign rfl rfl) ?_
      refine ol_nil ?_
      refine thenX_n ?_
      refine cd_ret ?_
      refine ret1 Try.results64 rfl ?_
      have H1 := (H.front 1).drop
      dsimp only [nthP, eraseP] at H1
      refine ⟨ob, oc, I, ⟨hI.nd, hI.sub, ?_, hle⟩, H1⟩
      first
        | (right; omega)
        | (left
           intro i hi
           have hts : ts = [] := List.eq_nil_of_length_eq_zero (by omega)
           rcases hI.cov i hi with h1 | ⟨s, h1, _⟩
           · exact h1
           · rw [hts] at h1; cases h1)


theorem c_Docs {h h0 : Heap} {lb : Nat} {l : List Int} {a b_ : Int} {L : List HP} (H : Sep h (HP.old h0 :: L)) (hf : ListF h0 lb l) :
    FnT Try.prog 29 [.pointer (some ⟨lb, 0, none⟩), .int .i64 a, .int .i64 b_] h (fun v' h' => ∃ ob oc, Sep h' (rowP eI 1 3 v' ob oc (docI l a b_ l.length) :: HP.old h0 :: L)) := by
  have hn := hf.n
  obtain ⟨T, dv, bv, db, dc, bb, bc, tab, hlb, hdv, hdr, hbv, hbr, htab⟩ := hf.out
  have hlb0 := (H.ext 0 rfl).get hlb
  refine fn_enter Try.func29 rfl Try.ntmps29 rfl ?_
  refine cd_seq ?_
  refine cd_region ?_
  refine ol_y rfl rfl (y_assign rfl rfl) ?_
  refine ol_nil ?_
  refine thenX_n ?_
  refine cd_seq ?_
  refine cd_seq ?_
  refine cd_region ?_
  refine ol_y rfl rfl (y_move rfl rfl) ?_
  refine ol_y rfl rfl (y_nilP rfl Try.underlying50 rfl rfl) ?_
  refine ol_nil ?_
  refine thenX_n ?_
  refine cd_false rfl rfl ?_
  refine cd_skip ?_
  refine thenX_n ?_
  refine cd_seq ?_
  refine cd_region ?_
  refine ol_y rfl rfl (y_move rfl rfl) ?_
  refine ol_y rfl rfl (y_move rfl rfl) ?_
  refine ol_y rfl rfl (y_move rfl rfl) ?_
  refine ol_y rfl rfl (y_move rfl rfl) ?_
  refine ol_y rfl rfl (y_nilCheck rfl rfl) ?_
  refine ol_y rfl rfl (y_fieldAddr rfl fo113_0 rfl) ?_
  refine ol_y rfl rfl (y_load rfl rfl (fun _ e => ldeq e (ld1 scl22 (cellH_blk (by assumption) rfl)))) ?_
  refine ol_y rfl rfl (y_lenV rfl Try.underlying22 rfl (by first | assumption | exact SlV.mk' _ _ _ _)) ?_
  refine ol_x rfl rfl (x_call rfl go64 rfl (c_Some H hf)) ?_
  clear H
  rintro v_ h2 ⟨ob, oc, I, hI, H⟩
  refine ol_y rfl rfl (y_assign rfl rfl) ?_
  refine ol_nil ?_
  refine thenX_n ?_
  refine cd_ret ?_
  refine ret1 Try.results29 rfl ?_
  refine ⟨ob, oc, ?_⟩
  rw [← outL_docs hI.nd hI.sub ?_]
  · exact H
  · rcases hI.all with h | h
    · exact h
    · exact FI_full (n := l.length) hI.nd hI.sub (by omega) (by omega) (by omega)


end Go.X
