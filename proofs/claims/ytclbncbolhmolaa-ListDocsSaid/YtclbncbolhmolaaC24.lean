/- rmq.Table.Len, better, scan: printed walks. -/
import Derived.Test.YtclbncbolhmolaaC23
import Derived.Test.YtclbncbolhmolaaM10
namespace Go.X
open Go Go.Proofs
set_option linter.unusedVariables false
set_option linter.unusedSimpArgs false
attribute [local irreducible] rowP HP.obj HP.old

theorem c_TabLen {h : Heap} {tb T lb lc : Nat} {lv rv : Value} {l : List Int} (hb : h[tb]? = some (.cells [lv, rv].toArray T (0, 0))) (hlv : SlV lv lb 0 l.length lc) (hlr : Rd eI 1 h lb 0 l) :
    FnT Try.prog 107 [.pointer (some ⟨tb, 0, none⟩)] h (fun v h' => v = .int .i64 l.length ∧ h = h') := by
  refine fn_enter Try.func107 rfl Try.ntmps107 rfl ?_
  refine cd_seq ?_
  refine cd_region ?_
  refine ol_y rfl rfl (y_assign rfl rfl) ?_
  refine ol_nil ?_
  refine thenX_n ?_
  refine cd_seq ?_
  refine cd_seq ?_
  refine cd_region ?_
  refine ol_y rfl rfl (y_move rfl rfl) ?_
  refine ol_y rfl rfl (y_nilP rfl Try.underlying109 rfl rfl) ?_
  refine ol_nil ?_
  refine thenX_n ?_
  refine cd_false rfl rfl ?_
  refine cd_skip ?_
  refine thenX_n ?_
  refine cd_seq ?_
  refine cd_region ?_
  refine ol_y rfl rfl (y_move rfl rfl) ?_
  refine ol_y rfl rfl (y_nilCheck rfl rfl) ?_
  refine ol_y rfl rfl (y_fieldAddr rfl fo148_0 rfl) ?_
  refine ol_y rfl rfl (y_load rfl rfl (fun _ e => ldeq e (ld1 scl22 (cellH_blk (by assumption) rfl)))) ?_
  refine ol_y rfl rfl (y_lenV rfl Try.underlying22 rfl (by first | assumption | exact SlV.mk' _ _ _ _)) ?_
  refine ol_y rfl rfl (y_assign rfl rfl) ?_
  refine ol_nil ?_
  refine thenX_n ?_
  refine cd_ret ?_
  refine ret1 Try.results107 rfl ?_
  exact ⟨rfl, rfl⟩


theorem c_better {h : Heap} {tb T lb lc : Nat} {lv rv : Value} {l : List Int} {a b_ : Int} (hb : h[tb]? = some (.cells [lv, rv].toArray T (0, 0))) (hlv : SlV lv lb 0 l.length lc) (hlr : Rd eI 1 h lb 0 l) (ha : -1 ≤ a ∧ a < l.length) (hb_ : -1 ≤ b_ ∧ b_ < l.length) :
    FnT Try.prog 95 [.pointer (some ⟨tb, 0, none⟩), .int .i64 a, .int .i64 b_] h (fun v h' => v = .int .i64 (betterF l a b_) ∧ h = h') := by
  refine fn_enter Try.func95 rfl Try.ntmps95 rfl ?_
  refine cd_seq ?_
  refine cd_region ?_
  refine ol_y rfl rfl (y_assign rfl rfl) ?_
  refine ol_nil ?_
  refine thenX_n ?_
  refine cd_seq ?_
  refine cd_block ?_
  refine cd_seq ?_
  refine cd_region ?_
  refine ol_y rfl rfl (y_move rfl rfl) ?_
  refine ol_y rfl rfl (y_lss rfl rfl rfl) ?_
  refine ol_y rfl rfl (y_assign rfl rfl) ?_
  refine ol_nil ?_
  refine thenX_n ?_
  refine cd_cond _ rfl (fun hc0 => ?_) (fun hc0 => ?_)
  · (try replace hc0 := of_decide_eq_true hc0)
    refine cd_seq ?_
    refine cd_region ?_
    refine ol_y rfl rfl (y_move rfl rfl) ?_
    refine ol_y rfl rfl (y_assign rfl rfl) ?_
    refine ol_nil ?_
    refine thenX_n ?_
    refine cd_ret ?_
    refine blockX_r ?_
    refine thenX_r ?_
    refine ret1 Try.results95 rfl ?_
    refine ⟨vint ?_, rfl⟩
    unfold betterF
    rw [if_pos hc0]
  · (try replace hc0 := of_decide_eq_false hc0)
    refine cd_seq ?_
    refine cd_draw (none) (fun x => x = h) [(0, 0), (1, 0), (2, 0), (3, 0), (4, 0), (5, 0), (6, 1), (7, 0), (8, 0), (9, 1), (10, 0), (11, 0), (12, 0), (13, 1), (14, 0), (15, 0), (16, 1), (17, 0), (18, 0), (19, 0), (20, 0), (21, 0), (22, 0), (23, 1), (24, 0), (25, 0), (26, 1), (27, 0), (28, 0), (29, 0), (30, 1), (31, 0), (32, 0), (33, 1), (34, 0), (35, 0), (36, 0), (37, 0), (38, 0), (39, 0), (40, 0), (41, 0)] mixed (by kernel_rfl) (by kernel_rfl) (by kernel_rfl) ?_ ?_
    · exact rfl
    refine hs_p rfl rfl rfl (y_move rfl rfl) ?_
    refine hs_p rfl rfl rfl (y_lss rfl rfl rfl) ?_
    refine hs_p rfl rfl rfl (y_move rfl rfl) ?_
    refine hs_split (t := 14) rfl (fun hg1 => ?_) (fun hg1 => ?_)
    · (try have hg1_ := of_decide_eq_true hg1)
      refine hs_gn rfl rfl rfl rfl rfl hg1 rfl ?_
      refine hs_gn rfl rfl rfl rfl rfl hg1 rfl ?_
      refine hs_gn rfl rfl rfl rfl rfl hg1 rfl ?_
      refine hs_gn1 rfl rfl rfl rfl rfl hg1 rfl ?_
      refine hs_gn rfl rfl rfl rfl rfl hg1 rfl ?_
      refine hs_gn rfl rfl rfl rfl rfl hg1 rfl ?_
      refine hs_gn1 rfl rfl rfl rfl rfl hg1 rfl ?_
      refine hs_gn rfl rfl rfl rfl rfl hg1 rfl ?_
      refine hs_gn rfl rfl rfl rfl rfl hg1 rfl ?_
      refine hs_gn rfl rfl rfl rfl rfl hg1 rfl ?_
      refine hs_gn1 rfl rfl rfl rfl rfl hg1 rfl ?_
      refine hs_gn rfl rfl rfl rfl rfl hg1 rfl ?_
      refine hs_gn rfl rfl rfl rfl rfl hg1 rfl ?_
      refine hs_gn1 rfl rfl rfl rfl rfl hg1 rfl ?_
      refine hs_gn rfl rfl rfl rfl rfl hg1 rfl ?_
      refine hs_p rfl rfl rfl (y_pick_t rfl rfl hg1 rfl) ?_
      refine hs_p rfl rfl rfl (y_move rfl rfl) ?_
      refine hs_gn rfl rfl rfl rfl rfl rfl rfl ?_
      refine hs_gn rfl rfl rfl rfl rfl rfl rfl ?_
      refine hs_gn rfl rfl rfl rfl rfl rfl rfl ?_
      refine hs_gn1 rfl rfl rfl rfl rfl rfl rfl ?_
      refine hs_gn rfl rfl rfl rfl rfl rfl rfl ?_
      refine hs_gn rfl rfl rfl rfl rfl rfl rfl ?_
      refine hs_gn1 rfl rfl rfl rfl rfl rfl rfl ?_
      refine hs_gn rfl rfl rfl rfl rfl rfl rfl ?_
      refine hs_gn rfl rfl rfl rfl rfl rfl rfl ?_
      refine hs_gn rfl rfl rfl rfl rfl rfl rfl ?_
      refine hs_gn1 rfl rfl rfl rfl rfl rfl rfl ?_
      refine hs_gn rfl rfl rfl rfl rfl rfl rfl ?_
      refine hs_gn rfl rfl rfl rfl rfl rfl rfl ?_
      refine hs_gn1 rfl rfl rfl rfl rfl rfl rfl ?_
      refine hs_gn rfl rfl rfl rfl rfl rfl rfl ?_
      refine hs_gn rfl rfl rfl rfl rfl rfl rfl ?_
      refine hs_gu rfl rfl rfl rfl rfl rfl ?_
      refine hs_gu rfl rfl rfl rfl rfl rfl ?_
      refine hs_gu rfl rfl rfl rfl rfl rfl ?_
      refine hs_gn rfl rfl rfl rfl rfl rfl rfl ?_
      refine hs_p rfl rfl rfl (y_pick_t rfl rfl rfl rfl) ?_
      refine hs_p rfl rfl rfl (y_assign rfl rfl) ?_
      refine hs_nil ?_
      refine thenX_n ?_
      refine cd_true rfl rfl ?_
      refine cd_seq ?_
      refine cd_region ?_
      refine ol_y rfl rfl (y_move rfl rfl) ?_
      refine ol_y rfl rfl (y_assign rfl rfl) ?_
      refine ol_nil ?_
      refine thenX_n ?_
      refine cd_ret ?_
      refine blockX_r ?_
      refine thenX_r ?_
      refine ret1 Try.results95 rfl ?_
      refine ⟨vint ?_, rfl⟩
      unfold betterF
      rw [if_neg hc0, if_pos (by first | (left; omega) | (right; left; omega) | (right; right; omega))]
    · (try have hg1_ := of_decide_eq_false hg1)
      refine hs_gp rfl rfl rfl rfl rfl hg1 rfl (y_move rfl rfl) ?_
      refine hs_gp rfl rfl rfl rfl rfl hg1 rfl (y_nilCheck rfl rfl) ?_
      refine hs_gp rfl rfl rfl rfl rfl hg1 rfl (y_fieldAddr rfl fo148_0 rfl) ?_
      refine hs_gy rfl rfl rfl rfl rfl hg1 rfl (y_load rfl rfl (fun _ e => ldeq e (ld1 scl22 (cellH_blk (by assumption) rfl)))) ?_
      refine hs_gp rfl rfl rfl rfl rfl hg1 rfl (y_move rfl rfl) ?_
      refine hs_gp rfl rfl rfl rfl rfl hg1 rfl (y_indexV rfl Try.underlying22 sz3 rfl (by first | assumption | exact SlV.mk' _ _ _ _) rfl (by omega) (by omega)) ?_
      refine hs_gy rfl rfl rfl rfl rfl hg1 rfl (y_load rfl rfl (fun _ e => ldeq e (ld_row scl3 (by assumption) (by omega) (by omega)))) ?_
      refine hs_gp rfl rfl rfl rfl rfl hg1 rfl (y_move rfl rfl) ?_
      refine hs_gp rfl rfl rfl rfl rfl hg1 rfl (y_nilCheck rfl rfl) ?_
      refine hs_gp rfl rfl rfl rfl rfl hg1 rfl (y_fieldAddr rfl fo148_0 rfl) ?_
      refine hs_gy rfl rfl rfl rfl rfl hg1 rfl (y_load rfl rfl (fun _ e => ldeq e (ld1 scl22 (cellH_blk (by assumption) rfl)))) ?_
      refine hs_gp rfl rfl rfl rfl rfl hg1 rfl (y_move rfl rfl) ?_
      refine hs_gp rfl rfl rfl rfl rfl hg1 rfl (y_indexV rfl Try.underlying22 sz3 rfl (by first | assumption | exact SlV.mk' _ _ _ _) rfl (by omega) (by omega)) ?_
      refine hs_gy rfl rfl rfl rfl rfl hg1 rfl (y_load rfl rfl (fun _ e => ldeq e (ld_row scl3 (by assumption) (by omega) (by omega)))) ?_
      refine hs_gp rfl rfl rfl rfl rfl hg1 rfl (y_lss rfl rfl rfl) ?_
      refine hs_p rfl rfl rfl (y_pick_f rfl rfl hg1 rfl) ?_
      refine hs_p rfl rfl rfl (y_move rfl rfl) ?_
      refine hs_split (t := 31) rfl (fun hg2 => ?_) (fun hg2 => ?_)
      · (try have hg2_ := of_decide_eq_true hg2)
        refine hs_gn rfl rfl rfl rfl rfl hg2 rfl ?_
        refine hs_gn rfl rfl rfl rfl rfl hg2 rfl ?_
        refine hs_gn rfl rfl rfl rfl rfl hg2 rfl ?_
        refine hs_gn1 rfl rfl rfl rfl rfl hg2 rfl ?_
        refine hs_gn rfl rfl rfl rfl rfl hg2 rfl ?_
        refine hs_gn rfl rfl rfl rfl rfl hg2 rfl ?_
        refine hs_gn1 rfl rfl rfl rfl rfl hg2 rfl ?_
        refine hs_gn rfl rfl rfl rfl rfl hg2 rfl ?_
        refine hs_gn rfl rfl rfl rfl rfl hg2 rfl ?_
        refine hs_gn rfl rfl rfl rfl rfl hg2 rfl ?_
        refine hs_gn1 rfl rfl rfl rfl rfl hg2 rfl ?_
        refine hs_gn rfl rfl rfl rfl rfl hg2 rfl ?_
        refine hs_gn rfl rfl rfl rfl rfl hg2 rfl ?_
        refine hs_gn1 rfl rfl rfl rfl rfl hg2 rfl ?_
        refine hs_gn rfl rfl rfl rfl rfl hg2 rfl ?_
        refine hs_gn rfl rfl rfl rfl rfl hg2 rfl ?_
        refine hs_gu rfl rfl rfl rfl rfl rfl ?_
        refine hs_gu rfl rfl rfl rfl rfl rfl ?_
        refine hs_gu rfl rfl rfl rfl rfl rfl ?_
        refine hs_gn rfl rfl rfl rfl rfl hg2 rfl ?_
        refine hs_p rfl rfl rfl (y_pick_t rfl rfl hg2 rfl) ?_
        refine hs_p rfl rfl rfl (y_assign rfl rfl) ?_
        refine hs_nil ?_
        refine thenX_n ?_
        refine cd_true rfl rfl ?_
        refine cd_seq ?_
        refine cd_region ?_
        refine ol_y rfl rfl (y_move rfl rfl) ?_
        refine ol_y rfl rfl (y_assign rfl rfl) ?_
        refine ol_nil ?_
        refine thenX_n ?_
        refine cd_ret ?_
        refine blockX_r ?_
        refine thenX_r ?_
        refine ret1 Try.results95 rfl ?_
        refine ⟨vint ?_, rfl⟩
        unfold betterF
        rw [if_neg hc0, if_pos (by first | (left; omega) | (right; left; omega) | (right; right; omega))]
      · (try have hg2_ := of_decide_eq_false hg2)
        refine hs_gp rfl rfl rfl rfl rfl hg2 rfl (y_move rfl rfl) ?_
        refine hs_gp rfl rfl rfl rfl rfl hg2 rfl (y_nilCheck rfl rfl) ?_
        refine hs_gp rfl rfl rfl rfl rfl hg2 rfl (y_fieldAddr rfl fo148_0 rfl) ?_
        refine hs_gy rfl rfl rfl rfl rfl hg2 rfl (y_load rfl rfl (fun _ e => ldeq e (ld1 scl22 (cellH_blk (by assumption) rfl)))) ?_
        refine hs_gp rfl rfl rfl rfl rfl hg2 rfl (y_move rfl rfl) ?_
        refine hs_gp rfl rfl rfl rfl rfl hg2 rfl (y_indexV rfl Try.underlying22 sz3 rfl (by first | assumption | exact SlV.mk' _ _ _ _) rfl (by omega) (by omega)) ?_
        refine hs_gy rfl rfl rfl rfl rfl hg2 rfl (y_load rfl rfl (fun _ e => ldeq e (ld_row scl3 (by assumption) (by omega) (by omega)))) ?_
        refine hs_gp rfl rfl rfl rfl rfl hg2 rfl (y_move rfl rfl) ?_
        refine hs_gp rfl rfl rfl rfl rfl hg2 rfl (y_nilCheck rfl rfl) ?_
        refine hs_gp rfl rfl rfl rfl rfl hg2 rfl (y_fieldAddr rfl fo148_0 rfl) ?_
        refine hs_gy rfl rfl rfl rfl rfl hg2 rfl (y_load rfl rfl (fun _ e => ldeq e (ld1 scl22 (cellH_blk (by assumption) rfl)))) ?_
        refine hs_gp rfl rfl rfl rfl rfl hg2 rfl (y_move rfl rfl) ?_
        refine hs_gp rfl rfl rfl rfl rfl hg2 rfl (y_indexV rfl Try.underlying22 sz3 rfl (by first | assumption | exact SlV.mk' _ _ _ _) rfl (by omega) (by omega)) ?_
        refine hs_gy rfl rfl rfl rfl rfl hg2 rfl (y_load rfl rfl (fun _ e => ldeq e (ld_row scl3 (by assumption) (by omega) (by omega)))) ?_
        refine hs_gp rfl rfl rfl rfl rfl hg2 rfl (y_eql rfl rfl rfl) ?_
        refine hs_gp rfl rfl rfl rfl rfl hg2 rfl (y_move rfl rfl) ?_
        refine hs_split (t := 47) rfl (fun hg3 => ?_) (fun hg3 => ?_)
        · (try have hg3_ := of_decide_eq_true hg3)
          refine hs_gp rfl rfl rfl rfl rfl hg3 rfl (y_move rfl rfl) ?_
          refine hs_gp rfl rfl rfl rfl rfl hg3 rfl (y_move rfl rfl) ?_
          refine hs_gp rfl rfl rfl rfl rfl hg3 rfl (y_lss rfl rfl rfl) ?_
          refine hs_gp rfl rfl rfl rfl rfl hg2 rfl (y_pick_t rfl rfl hg3 rfl) ?_
          refine hs_p rfl rfl rfl (y_pick_f rfl rfl hg2 rfl) ?_
          refine hs_p rfl rfl rfl (y_assign rfl rfl) ?_
          refine hs_nil ?_
          refine thenX_n ?_
          refine cd_cond _ rfl (fun hc1 => ?_) (fun hc1 => ?_)
          · (try replace hc1 := of_decide_eq_true hc1)
            refine cd_seq ?_
            refine cd_region ?_
            refine ol_y rfl rfl (y_move rfl rfl) ?_
            refine ol_y rfl rfl (y_assign rfl rfl) ?_
            refine ol_nil ?_
            refine thenX_n ?_
            refine cd_ret ?_
            refine blockX_r ?_
            refine thenX_r ?_
            refine ret1 Try.results95 rfl ?_
            refine ⟨vint ?_, rfl⟩
            unfold betterF
            rw [if_neg hc0, if_pos (by first | (left; omega) | (right; left; omega) | (right; right; omega))]
          · (try replace hc1 := of_decide_eq_false hc1)
            refine cd_skip ?_
            refine blockX_n ?_
            refine thenX_n ?_
            refine cd_seq ?_
            refine cd_region ?_
            refine ol_y rfl rfl (y_move rfl rfl) ?_
            refine ol_y rfl rfl (y_assign rfl rfl) ?_
            refine ol_nil ?_
            refine thenX_n ?_
            refine cd_ret ?_
            refine ret1 Try.results95 rfl ?_
            refine ⟨vint ?_, rfl⟩
            unfold betterF
            rw [if_neg hc0, if_neg (by rintro (h | h | h) <;> omega)]
        · (try have hg3_ := of_decide_eq_false hg3)
          refine hs_gn rfl rfl rfl rfl rfl hg3 rfl ?_
          refine hs_gn rfl rfl rfl rfl rfl hg3 rfl ?_
          refine hs_gn rfl rfl rfl rfl rfl hg3 rfl ?_
          refine hs_gp rfl rfl rfl rfl rfl hg2 rfl (y_pick_f rfl rfl hg3 rfl) ?_
          refine hs_p rfl rfl rfl (y_pick_f rfl rfl hg2 rfl) ?_
          refine hs_p rfl rfl rfl (y_assign rfl rfl) ?_
          refine hs_nil ?_
          refine thenX_n ?_
          refine cd_false rfl rfl ?_
          refine cd_skip ?_
          refine blockX_n ?_
          refine thenX_n ?_
          refine cd_seq ?_
          refine cd_region ?_
          refine ol_y rfl rfl (y_move rfl rfl) ?_
          refine ol_y rfl rfl (y_assign rfl rfl) ?_
          refine ol_nil ?_
          refine thenX_n ?_
          refine cd_ret ?_
          refine ret1 Try.results95 rfl ?_
          refine ⟨vint ?_, rfl⟩
          unfold betterF
          rw [if_neg hc0, if_neg (by rintro (h | h | h) <;> omega)]


theorem c_scan {h : Heap} {tb T lb lc : Nat} {lv rv : Value} {l : List Int} {a b_ : Int} (hb : h[tb]? = some (.cells [lv, rv].toArray T (0, 0))) (hlv : SlV lv lb 0 l.length lc) (hlr : Rd eI 1 h lb 0 l) (ha : 0 ≤ a) (hb_ : b_ ≤ l.length) (hl : l.length ≤ 4194304) :
    FnT Try.prog 94 [.pointer (some ⟨tb, 0, none⟩), .int .i64 a, .int .i64 b_] h (fun v h' => v = .int .i64 (scanF l a (b_ - a).toNat) ∧ h = h') := by
  refine fn_enter Try.func94 rfl Try.ntmps94 rfl ?_
  refine cd_seq ?_
  refine cd_region ?_
  refine ol_y rfl rfl (y_assign rfl rfl) ?_
  refine ol_nil ?_
  refine thenX_n ?_
  refine cd_seq ?_
  refine cd_region ?_
  refine ol_y rfl rfl (y_assign rfl rfl) ?_
  refine ol_nil ?_
  refine thenX_n ?_
  refine cd_seq ?_
  refine cd_seq ?_
  refine cd_region ?_
  refine ol_y rfl rfl (y_move rfl rfl) ?_
  refine ol_y rfl rfl (y_assign rfl rfl) ?_
  refine ol_nil ?_
  refine thenX_n ?_
  refine cd_block ?_
  refine cd_loop (γ := Nat) (fun k => [(0, .pointer (some ⟨tb, 0, none⟩)), (2, .int .i64 b_), (7, .int .i64 (scanF l a k)), (8, .int .i64 (a + k))]) (fun k h' => h = h' ∧ k ≤ (b_ - a).toNat) (fun k => (b_ - a).toNat - k) (0) ?_ ?_ ?_
  · exact ⟨rfl, rfl, rfl, vint (by simp), trivial⟩
  · exact ⟨rfl, by omega⟩
  · skip
    rintro k ρ h1 ⟨rfl, hk⟩
    (try dsimp only)
    have hsr := scan_rng l ha k
    refine cd_seq ?_
    refine cd_seq ?_
    refine cd_region ?_
    refine ol_y rfl rfl (y_move rfl rfl) ?_
    refine ol_y rfl rfl (y_move rfl rfl) ?_
    refine ol_y rfl rfl (y_lss rfl rfl rfl) ?_
    refine ol_nil ?_
    refine thenX_n ?_
    refine cd_cond _ rfl (fun hc0 => ?_) (fun hc0 => ?_)
    · (try replace hc0 := of_decide_eq_true hc0)
      refine cd_skip ?_
      refine thenX_n ?_
      refine cd_seq ?_
      refine cd_block ?_
      refine cd_region ?_
      refine ol_y rfl rfl (y_move rfl rfl) ?_
      refine ol_y rfl rfl (y_move rfl rfl) ?_
      refine ol_y rfl rfl (y_move rfl rfl) ?_
      refine ol_x rfl rfl (x_call rfl go95 rfl (c_better hb hlv hlr (by omega) (by omega))) ?_
      rintro _ _ ⟨rfl, rfl⟩
      refine ol_y rfl rfl (y_assign rfl rfl) ?_
      refine ol_nil ?_
      refine blockX_n ?_
      refine thenX_n ?_
      refine cd_region ?_
      refine ol_y rfl rfl (y_move rfl rfl) ?_
      refine ol_y rfl rfl (y_addi rfl rfl rfl (in64 (by omega) (by omega))) ?_
      refine ol_y rfl rfl (y_assign rfl rfl) ?_
      refine ol_nil ?_
      refine thenX_n ?_
      exact ⟨k + 1, ⟨rfl, rfl, rfl, vint (by (try dsimp only); omega), trivial⟩, ⟨rfl, by omega⟩, by omega⟩
    · (try replace hc0 := of_decide_eq_false hc0)
      refine cd_exit ?_
      refine thenX_e ?_
      refine thenX_e ?_
      refine blockX_hit ?_
      refine thenX_n ?_
      refine cd_seq ?_
      refine cd_region ?_
      refine ol_y rfl rfl (y_move rfl rfl) ?_
      refine ol_y rfl rfl (y_assign rfl rfl) ?_
      refine ol_nil ?_
      refine thenX_n ?_
      refine cd_ret ?_
      refine ret1 Try.results94 rfl ?_
      have ek : k = (b_ - a).toNat := by omega
      rw [← ek]
      exact ⟨rfl, rfl⟩


end Go.X
