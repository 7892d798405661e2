/- BestMoves: printed walk. -/
import Derived.Test.YtclbncbolhmolaaC20
namespace Go.X
open Go Go.Proofs
set_option linter.unusedVariables false
set_option linter.unusedSimpArgs false
attribute [local irreducible] rowP HP.obj HP.old
theorem slBase_lt {b p sz i c : Nat} (h : i < c) : slBase b p sz i c = some ⟨b, p + i * sz, none⟩ := by unfold slBase; rw [if_neg (by omega)]
theorem Rd.drop {α : Type} {enc : α → List Value} {sz : Nat} {h : Heap} {b p : Nat} {xs : List α} (H : Rd enc sz h b p xs) (m : Nat) : Rd enc sz h b (p + m * sz) (xs.drop m) := fun i x hx j v hv => by
  rw [List.getElem?_drop] at hx
  have := H (m + i) x hx j v hv
  rwa [Nat.add_mul, ← Nat.add_assoc] at this
theorem swap_perm {ws : List Int} {i : Nat} (h : i + 1 < ws.length) : ((ws.set i (gt ws ((i : Int) + 1))).set (i + 1) (gt ws (i : Int))).Perm ws := by
  have e1 : gt ws ((i : Int) + 1) = ws[i + 1] := by
    have : ((i : Int) + 1).toNat = i + 1 := by omega
    simp [gt, this, h]
  have e2 : gt ws (i : Int) = ws[i] := by simp [gt, show i < ws.length by omega]
  rw [e1, e2]
  have hw : ws = ws.take i ++ ws[i] :: ws[i + 1] :: ws.drop (i + 2) := by
    have h1 := List.drop_eq_getElem_cons (show i < ws.length by omega)
    have h2 := List.drop_eq_getElem_cons (show i + 1 < ws.length by omega)
    rw [h2] at h1
    rw [← h1, List.take_append_drop]
  have hl : (ws.take i).length = i := by rw [List.length_take]; omega
  generalize ws[i] = a at *
  generalize ws[i + 1] = b at *
  rw [hw, List.set_append_right _ _ (by omega), hl, Nat.sub_self, List.set_cons_zero, List.set_append_right _ _ (by omega), hl, show i + 1 - i = 0 + 1 by omega, List.set_cons_succ, List.set_cons_zero]
  exact List.Perm.append_left _ (List.Perm.swap _ _ _)
theorem rot_perm (l : List Int) (t : Nat) : (([] ++ l.drop t) ++ l.take t).Perm l := by
  rw [List.nil_append]
  exact List.perm_append_comm.trans (by rw [List.take_append_drop])
theorem whole_slice {l ws : List Int} (h : ws.length = l.length) : sliceL ws (max 0 0 : Int).toNat (min (l.length : Int) ws.length).toNat = ws := by
  rw [show (min (l.length : Int) (ws.length : Int)).toNat = ws.length by omega, show (max (0 : Int) 0).toNat = 0 from rfl]
  simp [sliceL]

theorem c_BestMoves {h : Heap} {v : Value} {b p c : Nat} {l : List Int} {tn k : Int} (hv : SlV v b p l.length c) (hr : Rd eI 1 h b p l) (hlc : l.length ≤ c) :
    FnT Try.prog 4 [v, .int .i64 tn, .int .i64 k] h (fun v h' => v = .bool true ∧ Ext h h') := by
  have H := Sep.start h
  have hw0 : 0 ≤ IntKind.u64.wrap tn := by rw [wrap_u64]; omega
  have hw1 : 0 ≤ IntKind.u64.wrap k := by rw [wrap_u64]; omega
  refine fn_enter Try.func4 rfl Try.ntmps4 rfl ?_
  refine cd_seq ?_
  refine cd_region ?_
  refine ol_y rfl rfl (y_assign rfl rfl) ?_
  refine ol_nil ?_
  refine thenX_n ?_
  refine cd_seq ?_
  refine cd_seq ?_
  refine cd_region ?_
  refine ol_x rfl rfl (x_call rfl go15 rfl c_first18) ?_
  rintro _ h2 ⟨rfl, hx⟩
  replace H := H.extend hx
  have hr1 := hx.rd hr
  refine ol_y rfl rfl (y_not rfl rfl) ?_
  refine ol_nil ?_
  refine thenX_n ?_
  refine cd_false rfl rfl ?_
  refine cd_skip ?_
  refine thenX_n ?_
  refine cd_seq ?_
  refine cd_seq ?_
  refine cd_region ?_
  refine ol_y rfl rfl (y_move rfl rfl) ?_
  refine ol_y rfl rfl (y_lenV rfl Try.underlying22 rfl (by first | assumption | exact SlV.mk' _ _ _ _)) ?_
  refine ol_y rfl rfl (y_gtr rfl rfl rfl) ?_
  refine ol_y rfl rfl (y_move rfl rfl) ?_
  refine ol_split (t := 20) rfl (fun hg3 => ?_) (fun hg3 => ?_)
  · (try have hg3_ := of_decide_eq_true hg3)
    refine ol_gn rfl rfl rfl rfl hg3 rfl ?_
    refine ol_gn rfl rfl rfl rfl hg3 rfl ?_
    refine ol_gn rfl rfl rfl rfl hg3 rfl ?_
    refine ol_y rfl rfl (y_pick_t rfl rfl hg3 rfl) ?_
    refine ol_y rfl rfl (y_move rfl rfl) ?_
    refine ol_gn rfl rfl rfl rfl rfl rfl ?_
    refine ol_gn rfl rfl rfl rfl rfl rfl ?_
    refine ol_gn rfl rfl rfl rfl rfl rfl ?_
    refine ol_y rfl rfl (y_pick_t rfl rfl rfl rfl) ?_
    refine ol_nil ?_
    refine thenX_n ?_
    refine cd_true rfl rfl ?_
    refine cd_seq ?_
    refine cd_region ?_
    refine ol_y rfl rfl (y_assign rfl rfl) ?_
    refine ol_nil ?_
    refine thenX_n ?_
    refine cd_ret ?_
    refine thenX_r ?_
    refine ret1 Try.results4 rfl ?_
    exact ⟨rfl, H.ext 0 rfl⟩
  · (try have hg3_ := of_decide_eq_false hg3)
    refine ol_gy rfl rfl rfl rfl hg3 rfl (y_move rfl rfl) ?_
    refine ol_gx rfl rfl rfl rfl hg3 rfl (x_call rfl go16 rfl (c_Right hv hr1 (by omega) (by decide))) ?_
    rintro _ _ ⟨rfl, rfl⟩
    refine ol_gy rfl rfl rfl rfl hg3 rfl (y_not rfl rfl) ?_
    refine ol_y rfl rfl (y_pick_f rfl rfl hg3 rfl) ?_
    refine ol_y rfl rfl (y_move rfl rfl) ?_
    refine ol_split (t := 25) rfl (fun hg5 => ?_) (fun hg5 => ?_)
    · (try have hg5_ := of_decide_eq_true hg5)
      refine ol_gn rfl rfl rfl rfl hg5 rfl ?_
      refine ol_gn rfl rfl rfl rfl hg5 rfl ?_
      refine ol_gn rfl rfl rfl rfl hg5 rfl ?_
      refine ol_y rfl rfl (y_pick_t rfl rfl hg5 rfl) ?_
      refine ol_nil ?_
      refine thenX_n ?_
      refine cd_true rfl rfl ?_
      refine cd_seq ?_
      refine cd_region ?_
      refine ol_y rfl rfl (y_assign rfl rfl) ?_
      refine ol_nil ?_
      refine thenX_n ?_
      refine cd_ret ?_
      refine thenX_r ?_
      refine ret1 Try.results4 rfl ?_
      exact ⟨rfl, H.ext 0 rfl⟩
    · (try have hg5_ := of_decide_eq_false hg5)
      have hcx := hg5
      refine ol_gy rfl rfl rfl rfl hg5 rfl (y_move rfl rfl) ?_
      refine ol_gy rfl rfl rfl rfl hg5 rfl (y_lenV rfl Try.underlying22 rfl (by first | assumption | exact SlV.mk' _ _ _ _)) ?_
      refine ol_gy rfl rfl rfl rfl hg5 rfl (y_eql rfl rfl rfl) ?_
      refine ol_y rfl rfl (y_pick_f rfl rfl hg5 rfl) ?_
      refine ol_nil ?_
      refine thenX_n ?_
      refine cd_cond _ rfl (fun hc1 => ?_) (fun hc1 => ?_)
      · (try replace hc1 := of_decide_eq_true hc1)
        refine cd_seq ?_
        refine cd_region ?_
        refine ol_y rfl rfl (y_assign rfl rfl) ?_
        refine ol_nil ?_
        refine thenX_n ?_
        refine cd_ret ?_
        refine thenX_r ?_
        refine ret1 Try.results4 rfl ?_
        exact ⟨rfl, H.ext 0 rfl⟩
      · (try replace hc1 := of_decide_eq_false hc1)
        have hcr : (!l.all (inAl 301)) = false := by simpa using hcx
        have hrow : ∀ x ∈ l, 0 ≤ x ∧ x ≤ 300 := fun x hx => by
          have h1 : l.all (inAl 301) = true := by simpa using hcr
          have h2 := List.all_eq_true.1 h1 x hx
          have h3 := of_decide_eq_true h2
          omega
        have hl0 : 0 < l.length := by omega
        obtain ⟨t, ht⟩ := Int.eq_ofNat_of_zero_le (Int.emod_nonneg (IntKind.u64.wrap tn) (show (l.length : Int) ≠ 0 by omega))
        have ht2 := Int.emod_lt_of_pos (IntKind.u64.wrap tn) (show (0 : Int) < l.length by omega)
        rw [ht] at ht2
        have hsl1 : Value.slice (slBase b p 1 ((t : Int)).toNat c) (l.length - ((t : Int)).toNat) (c - ((t : Int)).toNat) = .slice (some ⟨b, p + t * 1, none⟩) (l.length - t) (c - t) := by rw [Int.toNat_natCast, slBase_lt (by omega)]
        have hsd := SlV.mk' b (p + t * 1) (l.length - t) (c - t)
        have hst := cutV_sl (i := t) hv (by omega)
        refine cd_skip ?_
        refine thenX_n ?_
        refine cd_seq ?_
        refine cd_region ?_
        refine ol_y rfl rfl (y_move rfl rfl) ?_
        refine ol_y rfl rfl (y_convi rfl ⟨_, Try.underlying3⟩ Try.underlying36 rfl) ?_
        refine ol_y rfl rfl (y_move rfl rfl) ?_
        refine ol_y rfl rfl (y_lenV rfl Try.underlying22 rfl (by first | assumption | exact SlV.mk' _ _ _ _)) ?_
        refine ol_y rfl rfl (y_convw rfl ⟨_, Try.underlying3⟩ Try.underlying36 rfl (inu64 (by omega) (by omega))) ?_
        refine ol_y rfl rfl (y_remi rfl rfl rfl (by omega) (by omega)) ?_
        refine ol_y rfl rfl ((y_convw rfl ⟨_, Try.underlying36⟩ Try.underlying3 rfl (in64 (by omega) (by omega))).eq (vint ht)) ?_
        refine ol_y rfl rfl (y_assign rfl rfl) ?_
        refine ol_nil ?_
        refine thenX_n ?_
        refine cd_seq ?_
        refine cd_draw (some 0) (fun x => x = h2) [(1, 0), (2, 0), (3, 0), (5, 0), (6, 0), (7, 0), (0, 2), (4, 3), (8, 3), (9, 0)] mixed (by kernel_rfl) (by kernel_rfl) (by kernel_rfl) ?_ ?_
        · exact rfl
        refine hs_p rfl rfl rfl (y_move rfl rfl) ?_
        refine hs_p rfl rfl rfl (y_move rfl rfl) ?_
        refine hs_p rfl rfl rfl (Yl.eq (y_sliceLo rfl Try.underlying22 sz3 (hv.pos (by omega)) rfl (by omega) (by omega)) hsl1) ?_
        refine hs_p rfl rfl rfl (y_move rfl rfl) ?_
        refine hs_p rfl rfl rfl (y_move rfl rfl) ?_
        refine hs_p rfl rfl rfl (y_cutV (m := t) rfl Try.underlying22 sz3 rfl hv rfl rfl (by omega)) ?_
        refine hs_xk rfl rfl rfl (x_buildSlice (cs := []) rfl Try.underlying22 info3 rfl rfl rfl rfl H) rfl ?_
        clear H
        rintro _ h6 ⟨rfl, hz60, H⟩
        replace H := Sep.rowBlk (enc := eI) (xs := ([] : List Int)) eI_ok rfl (by decide) H
        have hra := (H.ext 1 rfl).rd hr
        have hrd := hra.drop t
        refine hs_xa rfl rfl rfl (x_append (enc := eI) (ys := l.drop t) rfl Try.underlying22 info3 rfl (by decide) eI_ok rfl rfl hsd hrd (by rw [List.length_drop]) (by simp only [List.length_nil]; omega) (by simp only [List.length_nil, maxLen]; omega) H) ?_
        clear H
        rintro x1v h7 ⟨hz64, x1b, x1c, H⟩
        have hrt := ((H.ext 1 rfl).rd hr).take t
        refine hs_xa rfl rfl rfl (x_append (enc := eI) (ys := l.take t) rfl Try.underlying22 info3 rfl (by decide) eI_ok rfl rfl hst hrt (by rw [List.length_take]; omega) (by simp only [List.length_append, List.length_nil, List.length_drop]; omega) (by simp only [List.length_append, List.length_nil, List.length_drop, maxLen]; omega) H) ?_
        clear H
        rintro x2v h8 ⟨hz68, x2b, x2c, H⟩
        refine hs_p rfl rfl rfl (y_assign rfl rfl) ?_
        refine hs_nil ?_
        refine thenX_n ?_
        refine cd_seq ?_
        refine cd_seq ?_
        refine cd_region ?_
        refine ol_y rfl rfl (y_assign rfl rfl) ?_
        refine ol_nil ?_
        refine thenX_n ?_
        refine cd_block ?_
        refine cd_loop (γ := Nat × List Int) (fun g => [(0, v), (2, .int .i64 k), (8, x2v), (9, .int .i64 (g.1 : Int))]) (fun g h' => g.2.Perm l ∧ g.1 ≤ l.length + 1 ∧ Sep h' (rowP eI 1 3 x2v x2b x2c g.2 :: HP.old h :: [])) (fun g => l.length + 2 - g.1) ((0, ([] ++ l.drop t) ++ l.take t)) ?_ ?_ ?_
        · (repeat (first | exact trivial | refine ⟨rfl, ?_⟩))
        · exact ⟨rot_perm l t, by (try dsimp only); omega, H⟩
        · skip
          rintro ⟨i, ws⟩ ρ h9 ⟨hpm, hi, H⟩
          (try dsimp only)
          dsimp only at hpm hi H
          have hwl := hpm.length_eq
          have hwv := H.rowV eI_ok 0 rfl
          have hwr := H.rowR eI_ok 0 rfl
          refine cd_seq ?_
          refine cd_seq ?_
          refine cd_region ?_
          refine ol_y rfl rfl (y_move rfl rfl) ?_
          refine ol_y rfl rfl (y_addi rfl rfl rfl (in64 (by omega) (by omega))) ?_
          refine ol_y rfl rfl (y_move rfl rfl) ?_
          refine ol_y rfl rfl (y_lenV rfl Try.underlying22 rfl (by first | assumption | exact SlV.mk' _ _ _ _)) ?_
          refine ol_y rfl rfl (y_lss rfl rfl rfl) ?_
          refine ol_nil ?_
          refine thenX_n ?_
          refine cd_cond _ rfl (fun hc2 => ?_) (fun hc2 => ?_)
          · (try replace hc2 := of_decide_eq_true hc2)
            refine cd_skip ?_
            refine thenX_n ?_
            refine cd_seq ?_
            refine cd_block ?_
            refine cd_draw (some 15) (fun x => x = h9) [(0, 0), (1, 0), (2, 0), (3, 0), (4, 0), (5, 0), (6, 0), (7, 0), (8, 0), (9, 1), (10, 0), (11, 0), (12, 0), (13, 1), (14, 0), (15, 2), (16, 0), (17, 3)] mixed (by kernel_rfl) (by kernel_rfl) (by kernel_rfl) ?_ ?_
            · exact rfl
            refine hs_p rfl rfl rfl (y_move rfl rfl) ?_
            refine hs_p rfl rfl rfl (y_move rfl rfl) ?_
            refine hs_p rfl rfl rfl (y_move rfl rfl) ?_
            refine hs_p rfl rfl rfl (y_move rfl rfl) ?_
            refine hs_p rfl rfl rfl (y_addi rfl rfl rfl (in64 (by omega) (by omega))) ?_
            refine hs_p rfl rfl rfl (y_move rfl rfl) ?_
            refine hs_p rfl rfl rfl (y_move rfl rfl) ?_
            refine hs_p rfl rfl rfl (y_addi rfl rfl rfl (in64 (by omega) (by omega))) ?_
            refine hs_p rfl rfl rfl (y_indexV rfl Try.underlying22 sz3 rfl (by first | assumption | exact SlV.mk' _ _ _ _) rfl (by omega) (by omega)) ?_
            refine hs_y rfl rfl rfl (y_load rfl rfl (fun _ e => ldeq e (ld_row scl3 (by assumption) (by omega) (by omega)))) ?_
            refine hs_p rfl rfl rfl (y_move rfl rfl) ?_
            refine hs_p rfl rfl rfl (y_move rfl rfl) ?_
            refine hs_p rfl rfl rfl (y_indexV rfl Try.underlying22 sz3 rfl (by first | assumption | exact SlV.mk' _ _ _ _) rfl (by omega) (by omega)) ?_
            refine hs_y rfl rfl rfl (y_load rfl rfl (fun _ e => ldeq e (ld_row scl3 (by assumption) (by omega) (by omega)))) ?_
            refine hs_p rfl rfl rfl (y_indexV rfl Try.underlying22 sz3 rfl (by first | assumption | exact SlV.mk' _ _ _ _) rfl (by omega) (by omega)) ?_
            refine hs_xk rfl rfl rfl (x_setRow (f := Value.int .i64) (i := (i : Int)) (y' := gt ws ((i : Int) + 1)) rfl rfl rfl sz3 (fun _ => ⟨rfl, rfl⟩) (by omega) (by first | omega | (simp only [List.length_set]; omega)) H) rfl ?_
            clear H
            rintro _ h10 ⟨rfl, hz1015, H⟩
            refine hs_p rfl rfl rfl (y_indexV rfl Try.underlying22 sz3 rfl (by first | assumption | exact SlV.mk' _ _ _ _) rfl (by omega) (by omega)) ?_
            refine hs_xa rfl rfl rfl (x_setRow (f := Value.int .i64) (i := ((i : Int) + 1)) (y' := gt ws (i : Int)) rfl rfl rfl sz3 (fun _ => ⟨rfl, rfl⟩) (by omega) (by first | omega | (simp only [List.length_set]; omega)) H) ?_
            clear H
            rintro _ h11 ⟨rfl, hz1017, H⟩
            refine hs_nil ?_
            refine blockX_n ?_
            refine thenX_n ?_
            refine cd_region ?_
            refine ol_y rfl rfl (y_move rfl rfl) ?_
            refine ol_y rfl rfl (y_addi rfl rfl rfl (in64 (by omega) (by omega))) ?_
            refine ol_y rfl rfl (y_assign rfl rfl) ?_
            refine ol_nil ?_
            refine thenX_n ?_
            rw [Int.toNat_natCast, show ((i : Int) + 1).toNat = i + 1 by omega] at H
            exact ⟨(i + 2, _), ⟨rfl, rfl, rfl, vint (by simp), trivial⟩, ⟨(swap_perm (by omega)).trans hpm, by (try dsimp only); omega, H⟩, by (try dsimp only); omega⟩
          · (try replace hc2 := of_decide_eq_false hc2)
            refine cd_exit ?_
            refine thenX_e ?_
            refine thenX_e ?_
            refine blockX_hit ?_
            refine thenX_n ?_
            refine cd_seq ?_
            refine cd_region ?_
            have hE0 := H.ext 1 rfl
            replace hr1 := hE0.rd hr
            clear H
            refine ol_y rfl rfl (y_move rfl rfl) ?_
            refine ol_x rfl rfl (x_call rfl go17 rfl (c_waveNew (l := l) (m := 300) hv hr1 (by omega) (by decide) hrow)) ?_
            rintro _ h2 ⟨mb, vbs, rfl, hx2, hm⟩
            replace hE0 := hE0.trans hx2
            replace hwr := hx2.rd hwr
            refine ol_y rfl rfl (y_move rfl rfl) ?_
            refine ol_y rfl rfl (y_extract rfl rfl rfl) ?_
            refine ol_y rfl rfl (y_extract rfl rfl rfl) ?_
            refine ol_y rfl rfl (y_assign rfl rfl) ?_
            refine ol_y rfl rfl (y_assign rfl rfl) ?_
            refine ol_nil ?_
            refine thenX_n ?_
            refine cd_seq ?_
            refine cd_region ?_
            refine ol_y rfl rfl (y_move rfl rfl) ?_
            refine ol_x rfl rfl (x_call rfl go17 rfl (c_waveNew (l := ws) (m := 300) hwv hwr (by omega) (by decide) (fun x hx => hrow x (hpm.mem_iff.1 hx)))) ?_
            rintro _ h3 ⟨nb, vbs2, rfl, hx3, hm2⟩
            replace hE0 := hE0.trans hx3
            replace hm := hm.ext hx3
            have H := Sep.start h3
            refine ol_y rfl rfl (y_move rfl rfl) ?_
            refine ol_y rfl rfl (y_extract rfl rfl rfl) ?_
            refine ol_y rfl rfl (y_extract rfl rfl rfl) ?_
            refine ol_y rfl rfl (y_assign rfl rfl) ?_
            refine ol_y rfl rfl (y_assign rfl rfl) ?_
            refine ol_nil ?_
            refine thenX_n ?_
            refine cd_seq ?_
            refine cd_region ?_
            refine ol_y rfl rfl (y_move rfl rfl) ?_
            refine ol_y rfl rfl (y_convi rfl ⟨_, Try.underlying3⟩ Try.underlying36 rfl) ?_
            refine ol_y rfl rfl (y_remi rfl rfl rfl (by omega) (by omega)) ?_
            refine ol_y rfl rfl (y_convw rfl ⟨_, Try.underlying36⟩ Try.underlying3 rfl (in64 (by omega) (by omega))) ?_
            refine ol_y rfl rfl (y_addi rfl rfl rfl (in64 (by omega) (by omega))) ?_
            refine ol_y rfl rfl (y_assign rfl rfl) ?_
            refine ol_nil ?_
            refine thenX_n ?_
            refine cd_seq ?_
            refine cd_region ?_
            refine ol_y rfl rfl (y_move rfl rfl) ?_
            refine ol_y rfl rfl (y_move rfl rfl) ?_
            refine ol_y rfl rfl (y_lenV rfl Try.underlying22 rfl (by first | assumption | exact SlV.mk' _ _ _ _)) ?_
            refine ol_y rfl rfl (y_move rfl rfl) ?_
            refine ol_x rfl rfl (x_call rfl go21 rfl (c_Top (h0 := h3) H (.inr ⟨mb, rfl, hm⟩) (root_ok hm.rng))) ?_
            clear H
            rintro av h15 ⟨ab, ac, outa, H, hoa⟩
            refine ol_y rfl rfl (y_move rfl rfl) ?_
            refine ol_y rfl rfl (y_move rfl rfl) ?_
            refine ol_y rfl rfl (y_lenV rfl Try.underlying22 rfl (by first | assumption | exact SlV.mk' _ _ _ _)) ?_
            refine ol_y rfl rfl (y_move rfl rfl) ?_
            replace H := H.front 1
            dsimp only [nthP, eraseP] at H
            refine ol_x rfl rfl (x_call rfl go21 rfl (c_Top (h0 := h3) H (.inr ⟨nb, rfl, hm2⟩) (root_ok hm2.rng))) ?_
            clear H
            rintro bv h17 ⟨bb, bc, outb, H, hob⟩
            have hRk := rankedL_of l
            have ea := hoa (rankedL l) (root_rem hm.rng (by rw [whole_slice rfl]; exact hRk))
            have eb := hob (rankedL l) (root_rem hm2.rng (by rw [whole_slice hwl]; exact hRk.perm hpm.symm))
            have hRl := rankedL_le l
            have hla := congrArg List.length ea
            rw [List.length_take] at hla
            have hav := H.rowV ePr_ok 2 rfl
            have har := H.rowR ePr_ok 2 rfl
            have hbv := H.rowV ePr_ok 0 rfl
            have hbr := H.rowR ePr_ok 0 rfl
            refine ol_x rfl rfl (x_call rfl go20 rfl (c_SameT hav har hbv hbr (by omega) (ea.trans eb.symm))) ?_
            rintro _ _ ⟨rfl, rfl⟩
            refine ol_y rfl rfl (y_assign rfl rfl) ?_
            refine ol_nil ?_
            refine thenX_n ?_
            refine cd_ret ?_
            refine ret1 Try.results4 rfl ?_
            exact ⟨rfl, hE0.trans (H.ext 1 rfl)⟩


end Go.X
