/- best.parts and container/heap: printed walks. -/
import Derived.Test.YtclbncbolhmolaaC7
namespace Go.X
open Go Go.Proofs
set_option linter.unusedVariables false
set_option linter.unusedSimpArgs false
attribute [local irreducible] rowP HP.obj HP.old lessP
theorem half_eq {j : Nat} (hj : j ≤ 8388608) : IntKind.i64.wrap (((j : Int) - 1).tdiv 2) = (((j - 1) / 2 : Nat) : Int) := by
  have e : ((j : Int) - 1).tdiv 2 = (((j - 1) / 2 : Nat) : Int) := by
    rcases Nat.eq_zero_or_pos j with rfl | h
    · rfl
    · rw [Int.tdiv_eq_ediv_of_nonneg (by omega)]; omega
  rw [e, wrap_i64] <;> omega
theorem PB_perm {q q' : List Prt} (h : q'.Perm q) (H : ∀ x ∈ q, PB x) : ∀ x ∈ q', PB x := fun x hx => H x (h.mem_iff.1 hx)

theorem c_pPush {h : Heap} {sb qb qc : Nat} {mv qv : Value} {q : List Prt} {L : List HP} (H : Sep h (blk sb [mv, qv] 99 :: rowP ePt 5 102 qv qb qc q :: L)) (hql : q.length ≤ 8388608) {p : Prt} :
    FnT Try.prog 153 [.pointer (some ⟨sb, 1, none⟩), .iface 102 (.agg (ePt p).toArray)] h (fun v h' => v = .tuple #[] ∧ ∃ qv' qb' qc', Sep h' (blk sb [mv, qv'] 99 :: rowP ePt 5 102 qv' qb' qc' (q ++ [p]) :: L)) := by
  have hb := H.obj 0 rfl
  have hv := H.rowV ePt_ok 1 rfl
  have hr := H.rowR ePt_ok 1 rfl
  refine fn_enter Try.func153 rfl Try.ntmps153 rfl ?_
  refine cd_draw (some 7) (Ext h) [(0, 0), (1, 0), (2, 0), (3, 1), (4, 0), (5, 0), (6, 2), (7, 2), (8, 0), (9, 3)] mixed (by kernel_rfl) (by kernel_rfl) (by kernel_rfl) ?_ ?_
  · exact Ext.refl _
  refine hs_p rfl rfl rfl (y_move rfl rfl) ?_
  refine hs_p rfl rfl rfl (y_move rfl rfl) ?_
  refine hs_p rfl rfl rfl (y_nilCheck rfl rfl) ?_
  refine hs_y rfl rfl rfl (y_load rfl rfl (fun x hx => ((ld1 scl97 (cellH_blk (by assumption) rfl))).ext hx)) ?_
  refine hs_p rfl rfl rfl (y_move rfl rfl) ?_
  refine hs_p rfl rfl rfl (y_typeAssert rfl conc102 rfl) ?_
  refine hs_x rfl rfl rfl (x_buildSlice (cs := [_, _, _, _, _]) rfl Try.underlying97 info102 rfl rfl rfl rfl H) ?_
  clear H
  rintro _ h1 ⟨rfl, hz_b, H⟩
  replace H := Sep.rowBlk (enc := ePt) (xs := [p]) ePt_ok rfl (one_maxLen _) H
  have hv0_7 := H.rowV ePt_ok 0 rfl
  have hr0_7 := H.rowR ePt_ok 0 rfl
  replace H := H.drop
  refine ⟨hz_b.2, ?_⟩
  have HF := H.front 1
  dsimp only [nthP, eraseP] at HF
  refine hs_xk rfl rfl rfl (x_append (enc := ePt) rfl Try.underlying97 info102 rfl (by decide) ePt_ok rfl rfl hv0_7 hr0_7 rfl (by simp only [List.length_cons, List.length_nil]; omega) (by simp only [List.length_cons, List.length_nil]; simp only [maxLen]; omega) HF) rfl ?_
  clear H HF hv0_7 hr0_7
  rintro v2 h2 ⟨hz_, b2, c2, H⟩
  replace H := H.ins 1
  dsimp only [insP] at H
  have hv2 := H.rowV ePt_ok 1 rfl
  refine hs_p rfl rfl rfl (y_nilCheck rfl rfl) ?_
  refine hs_xa rfl rfl rfl (by first | exact x_storeV rfl rfl rfl (by first | assumption | exact SlV.mk' _ _ _ _ | exact SlV.nil 0 0) sz97 H 0 rfl rfl rfl | exact x_storeV rfl rfl rfl (by first | assumption | exact SlV.mk' _ _ _ _ | exact SlV.nil 0 0) sz97 H 1 rfl rfl rfl | exact x_storeV rfl rfl rfl (by first | assumption | exact SlV.mk' _ _ _ _ | exact SlV.nil 0 0) sz97 H 2 rfl rfl rfl | exact x_storeV rfl rfl rfl (by first | assumption | exact SlV.mk' _ _ _ _ | exact SlV.nil 0 0) sz97 H 3 rfl rfl rfl | exact x_storeV rfl rfl rfl (by first | assumption | exact SlV.mk' _ _ _ _ | exact SlV.nil 0 0) sz97 H 4 rfl rfl rfl | exact x_storeV rfl rfl rfl (by first | assumption | exact SlV.mk' _ _ _ _ | exact SlV.nil 0 0) sz97 H 5 rfl rfl rfl) ?_
  clear H
  rintro _ h4 ⟨rfl, hz3, H⟩
  dsimp only [setP, List.set] at H
  refine hs_nil ?_
  refine ret0n Try.results153 ?_
  exact ⟨rfl, v2, b2, c2, H⟩


theorem c_pPop {h : Heap} {sb qb qc : Nat} {mv qv : Value} {q : List Prt} {L : List HP} (H : Sep h (blk sb [mv, qv] 99 :: rowP ePt 5 102 qv qb qc q :: L)) (hql : q.length ≤ 8388608) (h0 : 0 < q.length) :
    FnT Try.prog 152 [.pointer (some ⟨sb, 1, none⟩)] h (fun v h' => v = .iface 102 (.agg (ePt (gt q ((q.length - 1 : Nat) : Int))).toArray) ∧ ∃ qv', Sep h' (blk sb [mv, qv'] 99 :: rowP ePt 5 102 qv' qb qc (q.take (q.length - 1)) :: L)) := by
  have hb := H.obj 0 rfl
  have hv := H.rowV ePt_ok 1 rfl
  have hr := H.rowR ePt_ok 1 rfl
  refine fn_enter Try.func152 rfl Try.ntmps152 rfl ?_
  refine cd_seq ?_
  refine cd_region ?_
  refine ol_y rfl rfl (y_assign rfl rfl) ?_
  refine ol_nil ?_
  refine thenX_n ?_
  refine cd_seq ?_
  refine cd_region ?_
  refine ol_y rfl rfl (y_move rfl rfl) ?_
  refine ol_y rfl rfl (y_nilCheck rfl rfl) ?_
  refine ol_y rfl rfl (y_load rfl rfl (fun _ e => ldeq e (ld1 scl97 (cellH_blk (by assumption) rfl)))) ?_
  refine ol_y rfl rfl (y_lenV rfl Try.underlying97 rfl (by first | assumption | exact SlV.mk' _ _ _ _)) ?_
  refine ol_y rfl rfl ((y_subi rfl rfl rfl (in64 (by omega) (by omega))).eq (vint (show _ = ((q.length - 1 : Nat) : Int) by omega))) ?_
  refine ol_y rfl rfl (y_assign rfl rfl) ?_
  refine ol_nil ?_
  refine thenX_n ?_
  refine cd_seq ?_
  refine cd_region ?_
  refine ol_y rfl rfl (y_move rfl rfl) ?_
  refine ol_y rfl rfl (y_nilCheck rfl rfl) ?_
  refine ol_y rfl rfl (y_load rfl rfl (fun _ e => ldeq e (ld1 scl97 (cellH_blk (by assumption) rfl)))) ?_
  refine ol_y rfl rfl (y_move rfl rfl) ?_
  refine ol_y rfl rfl (y_indexV rfl Try.underlying97 sz102 rfl (by first | assumption | exact SlV.mk' _ _ _ _) rfl (by omega) (by omega)) ?_
  refine ol_y rfl rfl (y_load rfl rfl (fun _ e => ldeq e (ld_rowN agg102 ePt_ok (by assumption) (by omega) (by omega) rfl))) ?_
  refine ol_x rfl rfl (x_alloc rfl zero102 H) ?_
  clear H
  rintro _ h2 ⟨rfl, hz1, H⟩
  refine ol_x rfl rfl (by first | exact x_storeW rfl rfl rfl rfl sz102 rfl H 0 rfl rfl rfl | exact x_storeW rfl rfl rfl rfl sz102 rfl H 1 rfl rfl rfl | exact x_storeW rfl rfl rfl rfl sz102 rfl H 2 rfl rfl rfl | exact x_storeW rfl rfl rfl rfl sz102 rfl H 3 rfl rfl rfl | exact x_storeW rfl rfl rfl rfl sz102 rfl H 4 rfl rfl rfl | exact x_storeW rfl rfl rfl rfl sz102 rfl H 5 rfl rfl rfl) ?_
  clear H
  rintro _ h4 ⟨rfl, hz3, H⟩
  dsimp only [setP, List.set] at H
  have hbp := H.obj 0 rfl
  have hb := H.obj 1 rfl
  have hv := H.rowV ePt_ok 2 rfl
  have hr := H.rowR ePt_ok 2 rfl
  have hc := cutV_sl (i := q.length - 1) hv (by omega)
  have hqc := H.rowC 2 rfl
  refine ol_nil ?_
  refine thenX_n ?_
  refine cd_seq ?_
  refine cd_region ?_
  refine ol_y rfl rfl (y_move rfl rfl) ?_
  refine ol_y rfl rfl (y_move rfl rfl) ?_
  refine ol_y rfl rfl (y_nilCheck rfl rfl) ?_
  refine ol_y rfl rfl (y_load rfl rfl (fun _ e => ldeq e (ld1 scl97 (cellH_blk (by assumption) rfl)))) ?_
  refine ol_y rfl rfl (y_move rfl rfl) ?_
  refine ol_y rfl rfl (y_cutV (m := q.length - 1) rfl Try.underlying97 sz102 rfl hv rfl rfl (by omega)) ?_
  refine ol_y rfl rfl (y_nilCheck rfl rfl) ?_
  refine ol_x rfl rfl (by first | exact x_storeV rfl rfl rfl (by first | assumption | exact SlV.mk' _ _ _ _ | exact SlV.nil 0 0) sz97 H 0 rfl rfl rfl | exact x_storeV rfl rfl rfl (by first | assumption | exact SlV.mk' _ _ _ _ | exact SlV.nil 0 0) sz97 H 1 rfl rfl rfl | exact x_storeV rfl rfl rfl (by first | assumption | exact SlV.mk' _ _ _ _ | exact SlV.nil 0 0) sz97 H 2 rfl rfl rfl | exact x_storeV rfl rfl rfl (by first | assumption | exact SlV.mk' _ _ _ _ | exact SlV.nil 0 0) sz97 H 3 rfl rfl rfl | exact x_storeV rfl rfl rfl (by first | assumption | exact SlV.mk' _ _ _ _ | exact SlV.nil 0 0) sz97 H 4 rfl rfl rfl | exact x_storeV rfl rfl rfl (by first | assumption | exact SlV.mk' _ _ _ _ | exact SlV.nil 0 0) sz97 H 5 rfl rfl rfl) ?_
  clear H
  rintro _ h6 ⟨rfl, hz5, H⟩
  dsimp only [setP, List.set] at H
  have hbp := H.obj 0 rfl
  refine ol_nil ?_
  refine thenX_n ?_
  refine cd_seq ?_
  refine cd_region ?_
  refine ol_y rfl rfl (y_load rfl rfl (fun _ e => ldeq e (ldBlk agg102 (by assumption) rfl))) ?_
  refine ol_y rfl rfl (y_makeInterface rfl conc102 rfl) ?_
  refine ol_y rfl rfl (y_assign rfl rfl) ?_
  refine ol_nil ?_
  refine thenX_n ?_
  refine cd_ret ?_
  refine ret1 Try.results152 rfl ?_
  have H1 := (H.drop.front 1)
  dsimp only [nthP, eraseP] at H1
  have H2 := (rowP_cut (n := q.length - 1) ePt_ok (by omega) H1).ins 1
  exact ⟨rfl, _, H2⟩


theorem c_up {h : Heap} {sb qb qc : Nat} {mv qv : Value} {q : List Prt} {L : List HP} (H : Sep h (blk sb [mv, qv] 99 :: rowP ePt 5 102 qv qb qc q :: L)) (hql : q.length ≤ 8388608) (hpb : ∀ x ∈ q, PB x) {j : Nat} (hj : j < q.length) :
    FnT Try.prog 106 [.iface 104 (.pointer (some ⟨sb, 1, none⟩)), .int .i64 j] h (fun v h' => v = .tuple #[] ∧ Sep h' (blk sb [mv, qv] 99 :: rowP ePt 5 102 qv qb qc (upL q j) :: L)) := by
  refine fn_enter Try.func106 rfl Try.ntmps106 rfl ?_
  refine cd_block ?_
  refine cd_loop (γ := Nat × List Prt) (fun g => [(0, .iface 104 (.pointer (some ⟨sb, 1, none⟩))), (1, .int .i64 g.1)]) (fun g h' => g.1 < g.2.length ∧ g.2.length ≤ 8388608 ∧ upL g.2 g.1 = upL q j ∧ (∀ x ∈ g.2, PB x) ∧ Sep h' (blk sb [mv, qv] 99 :: rowP ePt 5 102 qv qb qc g.2 :: L)) (fun g => g.1) ((j, q)) ?_ ?_ ?_
  · (repeat (first | exact trivial | refine ⟨rfl, ?_⟩))
  · exact ⟨hj, hql, rfl, hpb, H⟩
  · skip
    clear hpb H hql
    rintro ⟨k, p⟩ ρ h1 ⟨hk, hql, he, hpb, H⟩
    (try dsimp only)
    dsimp only at hk hql he hpb H
    have hb := H.obj 0 rfl
    have hv := H.rowV ePt_ok 1 rfl
    have hr := H.rowR ePt_ok 1 rfl
    refine cd_block ?_
    refine cd_seq ?_
    refine cd_region ?_
    refine ol_y rfl rfl (y_move rfl rfl) ?_
    refine ol_y rfl rfl (y_subi rfl rfl rfl (in64 (by omega) (by omega))) ?_
    refine ol_y rfl rfl ((y_quo rfl rfl rfl (by decide)).eq (vint (half_eq (by omega)))) ?_
    refine ol_y rfl rfl (y_assign rfl rfl) ?_
    refine ol_nil ?_
    refine thenX_n ?_
    refine cd_seq ?_
    refine cd_seq ?_
    refine cd_region ?_
    refine ol_y rfl rfl (y_move rfl rfl) ?_
    refine ol_y rfl rfl (y_move rfl rfl) ?_
    refine ol_y rfl rfl (y_eql rfl rfl rfl) ?_
    refine ol_y rfl rfl (y_move rfl rfl) ?_
    refine ol_split (t := 11) rfl (fun hg2 => ?_) (fun hg2 => ?_)
    · (try have hg2_ := of_decide_eq_true hg2)
      refine ol_gn rfl rfl rfl rfl hg2 rfl ?_
      refine ol_gn rfl rfl rfl rfl hg2 rfl ?_
      refine ol_gn rfl rfl rfl rfl hg2 rfl ?_
      refine ol_gn rfl rfl rfl rfl hg2 rfl ?_
      refine ol_gn rfl rfl rfl rfl hg2 rfl ?_
      refine ol_y rfl rfl (y_pick_t rfl rfl hg2 rfl) ?_
      refine ol_nil ?_
      refine thenX_n ?_
      refine cd_true rfl rfl ?_
      refine cd_exit ?_
      refine thenX_e ?_
      refine blockX_miss rfl ?_
      refine thenX_e ?_
      refine blockX_hit ?_
      refine ret0n Try.results106 ?_
      refine ⟨rfl, ?_⟩
      rw [← he]
      first
        | (rw [upL, dif_pos (by omega)]; exact H)
        | (have hl : lessP (gt p (k : Int)) (gt p (((k - 1) / 2 : Nat) : Int)) = false := by simpa using hc0
           have e : upL p k = p := by
             rw [upL]; split
             · rfl
             · rw [if_neg (by rw [hl]; simp)]
           rw [e]; exact H)
    · (try have hg2_ := of_decide_eq_false hg2)
      refine ol_gy rfl rfl rfl rfl hg2 rfl (y_move rfl rfl) ?_
      refine ol_gy rfl rfl rfl rfl hg2 rfl (y_move rfl rfl) ?_
      refine ol_gy rfl rfl rfl rfl hg2 rfl (y_move rfl rfl) ?_
      refine ol_gx rfl rfl rfl rfl hg2 rfl (x_invokeV rfl meth_Less go148 rfl (ld1 scl97 (cellH_blk (by assumption) rfl)) rfl (c_pLess hv hr hpb (by omega) (by omega))) ?_
      rintro _ h4 ⟨rfl, hE⟩
      replace H := H.extend hE
      clear hE
      have hb := H.obj 0 rfl
      have hv := H.rowV ePt_ok 1 rfl
      have hr := H.rowR ePt_ok 1 rfl
      refine ol_gy rfl rfl rfl rfl hg2 rfl (y_not rfl rfl) ?_
      refine ol_y rfl rfl (y_pick_f rfl rfl hg2 rfl) ?_
      refine ol_nil ?_
      refine thenX_n ?_
      refine cd_cond _ rfl (fun hc0 => ?_) (fun hc0 => ?_)
      · (try replace hc0 := of_decide_eq_true hc0)
        refine cd_exit ?_
        refine thenX_e ?_
        refine blockX_miss rfl ?_
        refine thenX_e ?_
        refine blockX_hit ?_
        refine ret0n Try.results106 ?_
        refine ⟨rfl, ?_⟩
        rw [← he]
        first
          | (rw [upL, dif_pos (by omega)]; exact H)
          | (have hl : lessP (gt p (k : Int)) (gt p (((k - 1) / 2 : Nat) : Int)) = false := by simpa using hc0
             have e : upL p k = p := by
               rw [upL]; split
               · rfl
               · rw [if_neg (by rw [hl]; simp)]
             rw [e]; exact H)
      · (try replace hc0 := of_decide_eq_false hc0)
        refine cd_skip ?_
        refine thenX_n ?_
        refine cd_seq ?_
        refine cd_region ?_
        refine ol_y rfl rfl (y_move rfl rfl) ?_
        refine ol_y rfl rfl (y_move rfl rfl) ?_
        refine ol_y rfl rfl (y_move rfl rfl) ?_
        have HF := H.front 1
        dsimp only [nthP, eraseP] at HF
        refine ol_x rfl rfl (x_invokeV rfl meth_Swap go149 rfl (ld1 scl97 (cellH_blk (by assumption) rfl)) rfl (c_pSwap HF (by omega) (by omega))) ?_
        clear H HF
        rintro _ h6 ⟨rfl, hz5, H⟩
        replace H := H.ins 1
        dsimp only [insP] at H
        have hb := H.obj 0 rfl
        have hv := H.rowV ePt_ok 1 rfl
        have hr := H.rowR ePt_ok 1 rfl
        refine ol_nil ?_
        refine thenX_n ?_
        refine cd_region ?_
        refine ol_y rfl rfl (y_move rfl rfl) ?_
        refine ol_y rfl rfl (y_assign rfl rfl) ?_
        refine ol_nil ?_
        refine blockX_n ?_
        refine thenX_n ?_
        have hl : lessP (gt p (k : Int)) (gt p (((k - 1) / 2 : Nat) : Int)) = true := by simpa using hc0
        refine ⟨((k - 1) / 2, swapL p ((k - 1) / 2) k), ⟨rfl, rfl, trivial⟩, ⟨by (try dsimp only); rw [swapL_len]; omega, by rw [swapL_len]; omega, ?_, PB_perm (swapL_perm (by omega) hk) hpb, H⟩, by (try dsimp only); omega⟩
        (try dsimp only)
        rw [← he]
        conv => rhs; rw [upL, dif_neg (by omega), if_pos hl]


theorem c_down {h : Heap} {sb qb qc : Nat} {mv qv : Value} {q : List Prt} {L : List HP} (H : Sep h (blk sb [mv, qv] 99 :: rowP ePt 5 102 qv qb qc q :: L)) (hql : q.length ≤ 8388608) (hpb : ∀ x ∈ q, PB x) {i0 n : Nat} (hi : i0 < q.length) (hn : n ≤ q.length) :
    FnT Try.prog 90 [.iface 104 (.pointer (some ⟨sb, 1, none⟩)), .int .i64 i0, .int .i64 n] h (fun v h' => ∃ b, v = .bool b ∧ Sep h' (blk sb [mv, qv] 99 :: rowP ePt 5 102 qv qb qc (downL q i0 n) :: L)) := by
  refine fn_enter Try.func90 rfl Try.ntmps90 rfl ?_
  refine cd_seq ?_
  refine cd_region ?_
  refine ol_y rfl rfl (y_assign rfl rfl) ?_
  refine ol_nil ?_
  refine thenX_n ?_
  refine cd_seq ?_
  refine cd_region ?_
  refine ol_y rfl rfl (y_move rfl rfl) ?_
  refine ol_y rfl rfl (y_assign rfl rfl) ?_
  refine ol_nil ?_
  refine thenX_n ?_
  refine cd_seq ?_
  refine cd_block ?_
  refine cd_loop (γ := Nat × List Prt) (fun g => [(0, .iface 104 (.pointer (some ⟨sb, 1, none⟩))), (1, .int .i64 i0), (2, .int .i64 n), (7, .int .i64 g.1)]) (fun g h' => g.1 < g.2.length ∧ n ≤ g.2.length ∧ g.2.length ≤ 8388608 ∧ downL g.2 g.1 n = downL q i0 n ∧ (∀ x ∈ g.2, PB x) ∧ Sep h' (blk sb [mv, qv] 99 :: rowP ePt 5 102 qv qb qc g.2 :: L)) (fun g => n - g.1) ((i0, q)) ?_ ?_ ?_
  · (repeat (first | exact trivial | refine ⟨rfl, ?_⟩))
  · exact ⟨hi, hn, hql, rfl, hpb, H⟩
  · skip
    clear hpb H hql hn
    rintro ⟨k, p⟩ ρ h1 ⟨hk, hn, hql, he, hpb, H⟩
    (try dsimp only)
    dsimp only at hk hn hql he hpb H
    have hb := H.obj 0 rfl
    have hv := H.rowV ePt_ok 1 rfl
    have hr := H.rowR ePt_ok 1 rfl
    refine cd_block ?_
    refine cd_seq ?_
    refine cd_region ?_
    refine ol_y rfl rfl (y_move rfl rfl) ?_
    refine ol_y rfl rfl (y_muli rfl rfl rfl (in64 (by omega) (by omega))) ?_
    refine ol_y rfl rfl ((y_addi rfl rfl rfl (in64 (by omega) (by omega))).eq (vint (show _ = ((2 * k + 1 : Nat) : Int) by omega))) ?_
    refine ol_y rfl rfl (y_assign rfl rfl) ?_
    refine ol_nil ?_
    refine thenX_n ?_
    refine cd_seq ?_
    refine cd_seq ?_
    refine cd_region ?_
    refine ol_y rfl rfl (y_move rfl rfl) ?_
    refine ol_y rfl rfl (y_move rfl rfl) ?_
    refine ol_y rfl rfl (y_geq rfl rfl rfl) ?_
    refine ol_y rfl rfl (y_move rfl rfl) ?_
    refine ol_split (t := 18) rfl (fun hg2 => ?_) (fun hg2 => ?_)
    · (try have hg2_ := of_decide_eq_true hg2)
      refine ol_gn rfl rfl rfl rfl hg2 rfl ?_
      refine ol_gn rfl rfl rfl rfl hg2 rfl ?_
      refine ol_y rfl rfl (y_pick_t rfl rfl hg2 rfl) ?_
      refine ol_nil ?_
      refine thenX_n ?_
      refine cd_true rfl rfl ?_
      refine cd_exit ?_
      refine thenX_e ?_
      refine blockX_miss rfl ?_
      refine thenX_e ?_
      refine blockX_hit ?_
      refine thenX_n ?_
      refine cd_seq ?_
      refine cd_region ?_
      refine ol_y rfl rfl (y_move rfl rfl) ?_
      refine ol_y rfl rfl (y_move rfl rfl) ?_
      refine ol_y rfl rfl (y_gtr rfl rfl rfl) ?_
      refine ol_y rfl rfl (y_assign rfl rfl) ?_
      refine ol_nil ?_
      refine thenX_n ?_
      refine cd_ret ?_
      refine ret1 Try.results90 rfl ?_
      refine ⟨_, rfl, ?_⟩
      rw [← he]
      first
        | (rw [downL, dif_pos (by omega)]; exact H)
        | (have hl : lessP (gt p (kid p k n : Int)) (gt p (k : Int)) = false := by rw [hkd]; simpa using hc2
           have e : downL p k n = p := by
             rw [downL]; split
             · rfl
             · rw [if_neg (by rw [hl]; simp)]
           rw [e]; exact H)
    · (try have hg2_ := of_decide_eq_false hg2)
      refine ol_gy rfl rfl rfl rfl hg2 rfl (y_move rfl rfl) ?_
      refine ol_gy rfl rfl rfl rfl hg2 rfl (y_lss rfl rfl rfl) ?_
      refine ol_y rfl rfl (y_pick_f rfl rfl hg2 rfl) ?_
      refine ol_nil ?_
      refine thenX_n ?_
      refine cd_cond _ rfl (fun hc0 => ?_) (fun hc0 => ?_)
      · (try replace hc0 := of_decide_eq_true hc0)
        exfalso; omega
      · (try replace hc0 := of_decide_eq_false hc0)
        refine cd_skip ?_
        refine thenX_n ?_
        refine cd_seq ?_
        refine cd_region ?_
        refine ol_y rfl rfl (y_move rfl rfl) ?_
        refine ol_y rfl rfl (y_assign rfl rfl) ?_
        refine ol_nil ?_
        refine thenX_n ?_
        refine cd_seq ?_
        refine cd_seq ?_
        refine cd_region ?_
        refine ol_y rfl rfl (y_move rfl rfl) ?_
        refine ol_y rfl rfl ((y_addi rfl rfl rfl (in64 (by omega) (by omega))).eq (vint (show _ = ((2 * k + 2 : Nat) : Int) by omega))) ?_
        refine ol_y rfl rfl (y_assign rfl rfl) ?_
        refine ol_nil ?_
        refine thenX_n ?_
        refine cd_seq ?_
        refine cd_region ?_
        refine ol_y rfl rfl (y_move rfl rfl) ?_
        refine ol_y rfl rfl (y_move rfl rfl) ?_
        refine ol_y rfl rfl (y_lss rfl rfl rfl) ?_
        refine ol_y rfl rfl (y_move rfl rfl) ?_
        refine ol_split (t := 28) rfl (fun hg3 => ?_) (fun hg3 => ?_)
        · (try have hg3_ := of_decide_eq_true hg3)
          refine ol_gy rfl rfl rfl rfl hg3 rfl (y_move rfl rfl) ?_
          refine ol_gy rfl rfl rfl rfl hg3 rfl (y_move rfl rfl) ?_
          refine ol_gy rfl rfl rfl rfl hg3 rfl (y_move rfl rfl) ?_
          refine ol_gx rfl rfl rfl rfl hg3 rfl (x_invokeV rfl meth_Less go148 rfl (ld1 scl97 (cellH_blk (by assumption) rfl)) rfl (c_pLess hv hr hpb (by omega) (by omega))) ?_
          rintro _ h5 ⟨rfl, hE⟩
          replace H := H.extend hE
          clear hE
          have hb := H.obj 0 rfl
          have hv := H.rowV ePt_ok 1 rfl
          have hr := H.rowR ePt_ok 1 rfl
          refine ol_y rfl rfl (y_pick_t rfl rfl hg3 rfl) ?_
          refine ol_nil ?_
          refine thenX_n ?_
          refine cd_cond _ rfl (fun hc1 => ?_) (fun hc1 => ?_)
          · (try replace hc1 := of_decide_eq_true hc1)
            have hkd : kid p k n = 2 * k + 2 := by unfold kid; rw [if_pos ⟨by omega, hc1⟩]
            refine cd_region ?_
            refine ol_y rfl rfl (y_move rfl rfl) ?_
            refine ol_y rfl rfl (y_assign rfl rfl) ?_
            refine ol_nil ?_
            refine thenX_n ?_
            refine cd_seq ?_
            refine cd_seq ?_
            refine cd_region ?_
            refine ol_y rfl rfl (y_move rfl rfl) ?_
            refine ol_y rfl rfl (y_move rfl rfl) ?_
            refine ol_y rfl rfl (y_move rfl rfl) ?_
            refine ol_x rfl rfl (x_invokeV rfl meth_Less go148 rfl (ld1 scl97 (cellH_blk (by assumption) rfl)) rfl (c_pLess hv hr hpb (by omega) (by omega))) ?_
            rintro _ h7 ⟨rfl, hE⟩
            replace H := H.extend hE
            clear hE
            have hb := H.obj 0 rfl
            have hv := H.rowV ePt_ok 1 rfl
            have hr := H.rowR ePt_ok 1 rfl
            refine ol_y rfl rfl (y_not rfl rfl) ?_
            refine ol_nil ?_
            refine thenX_n ?_
            refine cd_cond _ rfl (fun hc2 => ?_) (fun hc2 => ?_)
            · (try replace hc2 := of_decide_eq_true hc2)
              refine cd_exit ?_
              refine thenX_e ?_
              refine blockX_miss rfl ?_
              refine thenX_e ?_
              refine blockX_hit ?_
              refine thenX_n ?_
              refine cd_seq ?_
              refine cd_region ?_
              refine ol_y rfl rfl (y_move rfl rfl) ?_
              refine ol_y rfl rfl (y_move rfl rfl) ?_
              refine ol_y rfl rfl (y_gtr rfl rfl rfl) ?_
              refine ol_y rfl rfl (y_assign rfl rfl) ?_
              refine ol_nil ?_
              refine thenX_n ?_
              refine cd_ret ?_
              refine ret1 Try.results90 rfl ?_
              refine ⟨_, rfl, ?_⟩
              rw [← he]
              first
                | (rw [downL, dif_pos (by omega)]; exact H)
                | (have hl : lessP (gt p (kid p k n : Int)) (gt p (k : Int)) = false := by rw [hkd]; simpa using hc2
                   have e : downL p k n = p := by
                     rw [downL]; split
                     · rfl
                     · rw [if_neg (by rw [hl]; simp)]
                   rw [e]; exact H)
            · (try replace hc2 := of_decide_eq_false hc2)
              refine cd_skip ?_
              refine thenX_n ?_
              refine cd_seq ?_
              refine cd_region ?_
              refine ol_y rfl rfl (y_move rfl rfl) ?_
              refine ol_y rfl rfl (y_move rfl rfl) ?_
              refine ol_y rfl rfl (y_move rfl rfl) ?_
              have HF := H.front 1
              dsimp only [nthP, eraseP] at HF
              refine ol_x rfl rfl (x_invokeV rfl meth_Swap go149 rfl (ld1 scl97 (cellH_blk (by assumption) rfl)) rfl (c_pSwap HF (by omega) (by omega))) ?_
              clear H HF
              rintro _ h9 ⟨rfl, hz8, H⟩
              replace H := H.ins 1
              dsimp only [insP] at H
              have hb := H.obj 0 rfl
              have hv := H.rowV ePt_ok 1 rfl
              have hr := H.rowR ePt_ok 1 rfl
              refine ol_nil ?_
              refine thenX_n ?_
              refine cd_region ?_
              refine ol_y rfl rfl (y_move rfl rfl) ?_
              refine ol_y rfl rfl (y_assign rfl rfl) ?_
              refine ol_nil ?_
              refine blockX_n ?_
              refine thenX_n ?_
              have hl : lessP (gt p (kid p k n : Int)) (gt p (k : Int)) = true := by rw [hkd]; simpa using hc2
              have hkn : kid p k n < n := by rcases kid_eq p k n with h | h <;> omega
              rw [← hkd] at H
              refine ⟨(kid p k n, swapL p k (kid p k n)), ⟨rfl, rfl, rfl, vint (by rw [hkd]), trivial⟩, ⟨by (try dsimp only); rw [swapL_len]; omega, by rw [swapL_len]; omega, by rw [swapL_len]; omega, ?_, PB_perm (swapL_perm (by omega) (by omega)) hpb, H⟩, by (try dsimp only); omega⟩
              (try dsimp only)
              rw [← he]
              conv => rhs; rw [downL, dif_neg (by omega), if_pos hl]
          · (try replace hc1 := of_decide_eq_false hc1)
            have hkd : kid p k n = 2 * k + 1 := by unfold kid; rw [if_neg (fun hh => by rw [hc1] at hh; exact absurd hh.2 (by simp))]
            refine cd_skip ?_
            refine thenX_n ?_
            refine cd_seq ?_
            refine cd_seq ?_
            refine cd_region ?_
            refine ol_y rfl rfl (y_move rfl rfl) ?_
            refine ol_y rfl rfl (y_move rfl rfl) ?_
            refine ol_y rfl rfl (y_move rfl rfl) ?_
            refine ol_x rfl rfl (x_invokeV rfl meth_Less go148 rfl (ld1 scl97 (cellH_blk (by assumption) rfl)) rfl (c_pLess hv hr hpb (by omega) (by omega))) ?_
            rintro _ h11 ⟨rfl, hE⟩
            replace H := H.extend hE
            clear hE
            have hb := H.obj 0 rfl
            have hv := H.rowV ePt_ok 1 rfl
            have hr := H.rowR ePt_ok 1 rfl
            refine ol_y rfl rfl (y_not rfl rfl) ?_
            refine ol_nil ?_
            refine thenX_n ?_
            refine cd_cond _ rfl (fun hc2 => ?_) (fun hc2 => ?_)
            · (try replace hc2 := of_decide_eq_true hc2)
              refine cd_exit ?_
              refine thenX_e ?_
              refine blockX_miss rfl ?_
              refine thenX_e ?_
              refine blockX_hit ?_
              refine thenX_n ?_
              refine cd_seq ?_
              refine cd_region ?_
              refine ol_y rfl rfl (y_move rfl rfl) ?_
              refine ol_y rfl rfl (y_move rfl rfl) ?_
              refine ol_y rfl rfl (y_gtr rfl rfl rfl) ?_
              refine ol_y rfl rfl (y_assign rfl rfl) ?_
              refine ol_nil ?_
              refine thenX_n ?_
              refine cd_ret ?_
              refine ret1 Try.results90 rfl ?_
              refine ⟨_, rfl, ?_⟩
              rw [← he]
              first
                | (rw [downL, dif_pos (by omega)]; exact H)
                | (have hl : lessP (gt p (kid p k n : Int)) (gt p (k : Int)) = false := by rw [hkd]; simpa using hc2
                   have e : downL p k n = p := by
                     rw [downL]; split
                     · rfl
                     · rw [if_neg (by rw [hl]; simp)]
                   rw [e]; exact H)
            · (try replace hc2 := of_decide_eq_false hc2)
              refine cd_skip ?_
              refine thenX_n ?_
              refine cd_seq ?_
              refine cd_region ?_
              refine ol_y rfl rfl (y_move rfl rfl) ?_
              refine ol_y rfl rfl (y_move rfl rfl) ?_
              refine ol_y rfl rfl (y_move rfl rfl) ?_
              have HF := H.front 1
              dsimp only [nthP, eraseP] at HF
              refine ol_x rfl rfl (x_invokeV rfl meth_Swap go149 rfl (ld1 scl97 (cellH_blk (by assumption) rfl)) rfl (c_pSwap HF (by omega) (by omega))) ?_
              clear H HF
              rintro _ h13 ⟨rfl, hz12, H⟩
              replace H := H.ins 1
              dsimp only [insP] at H
              have hb := H.obj 0 rfl
              have hv := H.rowV ePt_ok 1 rfl
              have hr := H.rowR ePt_ok 1 rfl
              refine ol_nil ?_
              refine thenX_n ?_
              refine cd_region ?_
              refine ol_y rfl rfl (y_move rfl rfl) ?_
              refine ol_y rfl rfl (y_assign rfl rfl) ?_
              refine ol_nil ?_
              refine blockX_n ?_
              refine thenX_n ?_
              have hl : lessP (gt p (kid p k n : Int)) (gt p (k : Int)) = true := by rw [hkd]; simpa using hc2
              have hkn : kid p k n < n := by rcases kid_eq p k n with h | h <;> omega
              rw [← hkd] at H
              refine ⟨(kid p k n, swapL p k (kid p k n)), ⟨rfl, rfl, rfl, vint (by rw [hkd]), trivial⟩, ⟨by (try dsimp only); rw [swapL_len]; omega, by rw [swapL_len]; omega, by rw [swapL_len]; omega, ?_, PB_perm (swapL_perm (by omega) (by omega)) hpb, H⟩, by (try dsimp only); omega⟩
              (try dsimp only)
              rw [← he]
              conv => rhs; rw [downL, dif_neg (by omega), if_pos hl]
        · (try have hg3_ := of_decide_eq_false hg3)
          have hkd : kid p k n = 2 * k + 1 := by unfold kid; rw [if_neg (fun hh => by omega)]
          refine ol_gn rfl rfl rfl rfl hg3 rfl ?_
          refine ol_gn rfl rfl rfl rfl hg3 rfl ?_
          refine ol_gn rfl rfl rfl rfl hg3 rfl ?_
          refine ol_gn rfl rfl rfl rfl hg3 rfl ?_
          refine ol_y rfl rfl (y_pick_f rfl rfl hg3 rfl) ?_
          refine ol_nil ?_
          refine thenX_n ?_
          refine cd_false rfl rfl ?_
          refine cd_skip ?_
          refine thenX_n ?_
          refine cd_seq ?_
          refine cd_seq ?_
          refine cd_region ?_
          refine ol_y rfl rfl (y_move rfl rfl) ?_
          refine ol_y rfl rfl (y_move rfl rfl) ?_
          refine ol_y rfl rfl (y_move rfl rfl) ?_
          refine ol_x rfl rfl (x_invokeV rfl meth_Less go148 rfl (ld1 scl97 (cellH_blk (by assumption) rfl)) rfl (c_pLess hv hr hpb (by omega) (by omega))) ?_
          rintro _ h15 ⟨rfl, hE⟩
          replace H := H.extend hE
          clear hE
          have hb := H.obj 0 rfl
          have hv := H.rowV ePt_ok 1 rfl
          have hr := H.rowR ePt_ok 1 rfl
          refine ol_y rfl rfl (y_not rfl rfl) ?_
          refine ol_nil ?_
          refine thenX_n ?_
          refine cd_cond _ rfl (fun hc2 => ?_) (fun hc2 => ?_)
          · (try replace hc2 := of_decide_eq_true hc2)
            refine cd_exit ?_
            refine thenX_e ?_
            refine blockX_miss rfl ?_
            refine thenX_e ?_
            refine blockX_hit ?_
            refine thenX_n ?_
            refine cd_seq ?_
            refine cd_region ?_
            refine ol_y rfl rfl (y_move rfl rfl) ?_
            refine ol_y rfl rfl (y_move rfl rfl) ?_
            refine ol_y rfl rfl (y_gtr rfl rfl rfl) ?_
            refine ol_y rfl rfl (y_assign rfl rfl) ?_
            refine ol_nil ?_
            refine thenX_n ?_
            refine cd_ret ?_
            refine ret1 Try.results90 rfl ?_
            refine ⟨_, rfl, ?_⟩
            rw [← he]
            first
              | (rw [downL, dif_pos (by omega)]; exact H)
              | (have hl : lessP (gt p (kid p k n : Int)) (gt p (k : Int)) = false := by rw [hkd]; simpa using hc2
                 have e : downL p k n = p := by
                   rw [downL]; split
                   · rfl
                   · rw [if_neg (by rw [hl]; simp)]
                 rw [e]; exact H)
          · (try replace hc2 := of_decide_eq_false hc2)
            refine cd_skip ?_
            refine thenX_n ?_
            refine cd_seq ?_
            refine cd_region ?_
            refine ol_y rfl rfl (y_move rfl rfl) ?_
            refine ol_y rfl rfl (y_move rfl rfl) ?_
            refine ol_y rfl rfl (y_move rfl rfl) ?_
            have HF := H.front 1
            dsimp only [nthP, eraseP] at HF
            refine ol_x rfl rfl (x_invokeV rfl meth_Swap go149 rfl (ld1 scl97 (cellH_blk (by assumption) rfl)) rfl (c_pSwap HF (by omega) (by omega))) ?_
            clear H HF
            rintro _ h17 ⟨rfl, hz16, H⟩
            replace H := H.ins 1
            dsimp only [insP] at H
            have hb := H.obj 0 rfl
            have hv := H.rowV ePt_ok 1 rfl
            have hr := H.rowR ePt_ok 1 rfl
            refine ol_nil ?_
            refine thenX_n ?_
            refine cd_region ?_
            refine ol_y rfl rfl (y_move rfl rfl) ?_
            refine ol_y rfl rfl (y_assign rfl rfl) ?_
            refine ol_nil ?_
            refine blockX_n ?_
            refine thenX_n ?_
            have hl : lessP (gt p (kid p k n : Int)) (gt p (k : Int)) = true := by rw [hkd]; simpa using hc2
            have hkn : kid p k n < n := by rcases kid_eq p k n with h | h <;> omega
            rw [← hkd] at H
            refine ⟨(kid p k n, swapL p k (kid p k n)), ⟨rfl, rfl, rfl, vint (by rw [hkd]), trivial⟩, ⟨by (try dsimp only); rw [swapL_len]; omega, by rw [swapL_len]; omega, by rw [swapL_len]; omega, ?_, PB_perm (swapL_perm (by omega) (by omega)) hpb, H⟩, by (try dsimp only); omega⟩
            (try dsimp only)
            rw [← he]
            conv => rhs; rw [downL, dif_neg (by omega), if_pos hl]


theorem c_hPush {h : Heap} {sb qb qc : Nat} {mv qv : Value} {q : List Prt} {L : List HP} (H : Sep h (blk sb [mv, qv] 99 :: rowP ePt 5 102 qv qb qc q :: L)) (hql : q.length < 8388608) {p : Prt} (hpb : ∀ x ∈ q, PB x) (hp : PB p) :
    FnT Try.prog 89 [.iface 104 (.pointer (some ⟨sb, 1, none⟩)), .iface 102 (.agg (ePt p).toArray)] h (fun v h' => v = .tuple #[] ∧ ∃ qv' qb' qc', Sep h' (blk sb [mv, qv'] 99 :: rowP ePt 5 102 qv' qb' qc' (pushL q p) :: L)) := by
  refine fn_enter Try.func89 rfl Try.ntmps89 rfl ?_
  refine cd_seq ?_
  refine cd_region ?_
  refine ol_y rfl rfl (y_move rfl rfl) ?_
  refine ol_y rfl rfl (y_move rfl rfl) ?_
  refine ol_x rfl rfl (x_invokeP rfl meth_Push go153 rfl rfl (c_pPush (p := p) H (by omega))) ?_
  clear H
  rintro _ h2 ⟨rfl, qv, qb, qc, H⟩
  have hql2 : (q ++ [p]).length = q.length + 1 := by simp
  have hb := H.obj 0 rfl
  have hv := H.rowV ePt_ok 1 rfl
  have hr := H.rowR ePt_ok 1 rfl
  refine ol_nil ?_
  refine thenX_n ?_
  refine cd_region ?_
  refine ol_y rfl rfl (y_move rfl rfl) ?_
  refine ol_y rfl rfl (y_move rfl rfl) ?_
  refine ol_x rfl rfl (x_invokeV rfl meth_Len go147 rfl (ld1 scl97 (cellH_blk (by assumption) rfl)) rfl (c_pLen hv)) ?_
  rintro _ _ ⟨rfl, rfl⟩
  refine ol_y rfl rfl ((y_subi rfl rfl rfl (in64 (by omega) (by omega))).eq (vint (show _ = (q.length : Int) by simp))) ?_
  refine ol_x rfl rfl (x_call rfl go106 rfl (c_up (j := q.length) H (by omega) (fun x hx => by rcases List.mem_append.1 hx with h | h; exact hpb x h; rw [List.mem_singleton.1 h]; exact hp) (by omega))) ?_
  clear H
  rintro _ h5 ⟨rfl, H⟩
  refine ol_nil ?_
  refine ret0n Try.results89 ?_
  exact ⟨rfl, qv, qb, qc, H⟩


theorem c_hPop {h : Heap} {sb qb qc : Nat} {mv qv : Value} {q : List Prt} {L : List HP} (H : Sep h (blk sb [mv, qv] 99 :: rowP ePt 5 102 qv qb qc q :: L)) (hql : q.length ≤ 8388608) (hpb : ∀ x ∈ q, PB x) (h0 : 0 < q.length) :
    FnT Try.prog 56 [.iface 104 (.pointer (some ⟨sb, 1, none⟩))] h (fun v h' => v = .iface 102 (.agg (ePt (gt q ((0 : Nat) : Int))).toArray) ∧ ∃ qv', Sep h' (blk sb [mv, qv'] 99 :: rowP ePt 5 102 qv' qb qc (popL q) :: L)) := by
  have hb := H.obj 0 rfl
  have hv := H.rowV ePt_ok 1 rfl
  have hr := H.rowR ePt_ok 1 rfl
  refine fn_enter Try.func56 rfl Try.ntmps56 rfl ?_
  refine cd_seq ?_
  refine cd_region ?_
  refine ol_y rfl rfl (y_assign rfl rfl) ?_
  refine ol_nil ?_
  refine thenX_n ?_
  refine cd_seq ?_
  refine cd_region ?_
  refine ol_y rfl rfl (y_move rfl rfl) ?_
  refine ol_x rfl rfl (x_invokeV rfl meth_Len go147 rfl (ld1 scl97 (cellH_blk (by assumption) rfl)) rfl (c_pLen hv)) ?_
  rintro _ _ ⟨rfl, rfl⟩
  refine ol_y rfl rfl ((y_subi rfl rfl rfl (in64 (by omega) (by omega))).eq (vint (show _ = ((q.length - 1 : Nat) : Int) by omega))) ?_
  refine ol_y rfl rfl (y_assign rfl rfl) ?_
  refine ol_nil ?_
  refine thenX_n ?_
  refine cd_seq ?_
  refine cd_region ?_
  refine ol_y rfl rfl (y_move rfl rfl) ?_
  refine ol_y rfl rfl (y_move rfl rfl) ?_
  have HF := H.front 1
  dsimp only [nthP, eraseP] at HF
  refine ol_x rfl rfl (x_invokeV rfl meth_Swap go149 rfl (ld1 scl97 (cellH_blk (by assumption) rfl)) rfl (c_pSwap (i := 0) (j := q.length - 1) HF (by omega) (by omega))) ?_
  clear H HF
  rintro _ h3 ⟨rfl, hz2, H⟩
  replace H := H.ins 1
  dsimp only [insP] at H
  have hs := swapL_len q 0 (q.length - 1)
  have hb := H.obj 0 rfl
  have hv := H.rowV ePt_ok 1 rfl
  have hr := H.rowR ePt_ok 1 rfl
  refine ol_nil ?_
  refine thenX_n ?_
  refine cd_seq ?_
  refine cd_region ?_
  refine ol_y rfl rfl (y_move rfl rfl) ?_
  refine ol_y rfl rfl (y_move rfl rfl) ?_
  refine ol_x rfl rfl (x_call rfl go90 rfl (c_down (i0 := 0) (n := q.length - 1) H (by omega) (PB_perm (swapL_perm (by omega) (by omega)) hpb) (by omega) (by omega))) ?_
  clear H
  rintro _ h5 ⟨b_, rfl, H⟩
  have hd := downL_len (q := swapL q 0 (q.length - 1)) (i := 0) (n := q.length - 1) (by omega) (by omega)
  refine ol_nil ?_
  refine thenX_n ?_
  refine cd_seq ?_
  refine cd_region ?_
  refine ol_y rfl rfl (y_move rfl rfl) ?_
  refine ol_x rfl rfl (x_invokeP rfl meth_Pop go152 rfl rfl (c_pPop H (by omega) (by omega))) ?_
  clear H
  rintro _ h7 ⟨rfl, qv2, H⟩
  refine ol_y rfl rfl (y_assign rfl rfl) ?_
  refine ol_nil ?_
  refine thenX_n ?_
  refine cd_ret ?_
  refine ret1 Try.results56 rfl ?_
  rw [show (downL (swapL q 0 (q.length - 1)) 0 (q.length - 1)).length - 1 = q.length - 1 by omega] at H
  refine ⟨?_, qv2, H⟩
  show Value.iface 102 (.agg (ePt (gt (downL (swapL q 0 (q.length - 1)) 0 (q.length - 1)) (((downL (swapL q 0 (q.length - 1)) 0 (q.length - 1)).length - 1 : Nat) : Int))).toArray) = _
  rw [show (downL (swapL q 0 (q.length - 1)) 0 (q.length - 1)).length - 1 = q.length - 1 by omega, popL_last h0]


end Go.X
