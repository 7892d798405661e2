/- Contracts of pack's Set and Words and of rank.New: printed walks. -/
import Derived.Test.YtclbncbolhmolaaC2
namespace Go.X
open Go Go.Proofs
set_option linter.unusedVariables false
set_option linter.unusedSimpArgs false
attribute [local irreducible] rowP HP.obj HP.old

theorem c_IntsWords {h : Heap} {b T wb wc : Nat} {w n : Int} {wv : Value} {ws : List Int} {L : List HP} (H : Sep h L) (hb : h[b]? = some (.cells [.int .i64 w, .int .i64 n, wv].toArray T (0, 0))) (hv : SlV wv wb 0 ws.length wc) (hr : Rd eU 1 h wb 0 ws) (hl : ws.length ≤ 4194304) :
    FnT Try.prog 86 [.pointer (some ⟨b, 0, none⟩)] h (fun v' h' => (h.size ≤ h'.size) ∧ ∃ b' c', Sep h' (rowP eU 1 85 v' b' c' ws :: L)) := by
  refine fn_enter Try.func86 rfl Try.ntmps86 rfl ?_
  refine cd_seq ?_
  refine cd_region ?_
  refine ol_y rfl rfl (y_assign rfl rfl) ?_
  refine ol_nil ?_
  refine thenX_n ?_
  refine cd_seq ?_
  refine cd_seq ?_
  refine cd_region ?_
  refine ol_y rfl rfl (y_move rfl rfl) ?_
  refine ol_y rfl rfl (y_nilP rfl Try.underlying89 rfl rfl) ?_
  refine ol_nil ?_
  refine thenX_n ?_
  refine cd_cond _ rfl (fun hc0 => ?_) (fun hc0 => ?_)
  · (try replace hc0 := of_decide_eq_true hc0)
    cases hc0
  · (try replace hc0 := of_decide_eq_false hc0)
    refine cd_skip ?_
    refine thenX_n ?_
    refine cd_seq ?_
    refine cd_region ?_
    refine ol_y rfl rfl (y_move rfl rfl) ?_
    refine ol_y rfl rfl (y_nilCheck rfl rfl) ?_
    refine ol_y rfl rfl (y_fieldAddr rfl fo129_2 rfl) ?_
    refine ol_y rfl rfl (y_load rfl rfl (fun _ e => ldeq e (ld1 scl127 (cellH_blk (by assumption) rfl)))) ?_
    refine ol_x rfl rfl (x_call rfl go105 rfl (c_CloneU H hv hr hl)) ?_
    clear H
    rintro v_ h2 ⟨hz1, b_, c_, H⟩
    refine ol_y rfl rfl (y_assign rfl rfl) ?_
    refine ol_nil ?_
    refine thenX_n ?_
    refine cd_ret ?_
    refine ret1 Try.results86 rfl ?_
    exact ⟨by omega, b_, c_, H⟩


theorem c_IntsSet {h : Heap} {b wb wc w n i : Nat} {v : Int} {wv : Value} {ws : List Int} {L : List HP} (H : Sep h (blk b [.int .i64 w, .int .i64 n, wv] 129 :: rowP eU 1 85 wv wb wc ws :: L)) (hw : 1 ≤ w ∧ w ≤ 64) (hn : n ≤ 4194304) (hl : ws.length = (w * n + 63) / 64) (hi : i < n) (hv0 : 0 ≤ v) (hv : v ≤ maskI w) :
    FnT Try.prog 51 [.pointer (some ⟨b, 0, none⟩), .int .i64 i, .int .u64 v] h (fun v' h' => v' = .bool true ∧ h'.size = h.size ∧ Sep h' (blk b [.int .i64 w, .int .i64 n, wv] 129 :: rowP eU 1 85 wv wb wc (setW w ws i v) :: L)) := by
  have hb := H.obj 0 rfl
  have hwv := H.rowV eU_ok 1 rfl
  have hws := H.rowR eU_ok 1 rfl
  have hm := maskI_rng hw.2
  have h0 : (0 : Int) ≤ (i : Int) * w := Int.mul_nonneg (by omega) (by omega)
  have hin : i * w + w ≤ n * w := by rw [← Nat.succ_mul]; exact Nat.mul_le_mul_right w hi
  have hnw : n * w ≤ 4194304 * 64 := Nat.mul_le_mul hn hw.2
  have hq : ((i : Int) * w) = ((i * w : Nat) : Int) := by simp
  have hc : w * n = n * w := Nat.mul_comm _ _
  have hk : (0 : Int) ≤ (i : Int) * w / 64 ∧ (i : Int) * w / 64 < ws.length := by omega
  have hs : (0 : Int) ≤ (i : Int) * w % 64 ∧ (i : Int) * w % 64 < 64 := by omega
  refine fn_enter Try.func51 rfl Try.ntmps51 rfl ?_
  refine cd_seq ?_
  refine cd_region ?_
  refine ol_y rfl rfl (y_assign rfl rfl) ?_
  refine ol_nil ?_
  refine thenX_n ?_
  refine cd_seq ?_
  refine cd_seq ?_
  refine cd_region ?_
  refine ol_y rfl rfl (y_move rfl rfl) ?_
  refine ol_y rfl rfl (y_nilP rfl Try.underlying89 rfl rfl) ?_
  refine ol_y rfl rfl (y_move rfl rfl) ?_
  refine ol_split (t := 13) rfl (fun hg1 => ?_) (fun hg1 => ?_)
  · (try have hg1_ := of_decide_eq_true hg1)
    cases hg1
  · (try have hg1_ := of_decide_eq_false hg1)
    refine ol_gy rfl rfl rfl rfl hg1 rfl (y_move rfl rfl) ?_
    refine ol_gy rfl rfl rfl rfl hg1 rfl (y_lss rfl rfl rfl) ?_
    refine ol_y rfl rfl (y_pick_f rfl rfl hg1 rfl) ?_
    refine ol_y rfl rfl (y_move rfl rfl) ?_
    refine ol_split (t := 17) rfl (fun hg2 => ?_) (fun hg2 => ?_)
    · (try have hg2_ := of_decide_eq_true hg2)
      exfalso; omega
    · (try have hg2_ := of_decide_eq_false hg2)
      refine ol_gy rfl rfl rfl rfl hg2 rfl (y_move rfl rfl) ?_
      refine ol_gy rfl rfl rfl rfl hg2 rfl (y_move rfl rfl) ?_
      refine ol_gy rfl rfl rfl rfl hg2 rfl (y_nilCheck rfl rfl) ?_
      refine ol_gy rfl rfl rfl rfl hg2 rfl (y_fieldAddr rfl fo129_1 rfl) ?_
      refine ol_gy rfl rfl rfl rfl hg2 rfl (y_load rfl rfl (fun _ e => ldeq e (ld1 scl3 (cellH_blk (by assumption) rfl)))) ?_
      refine ol_gy rfl rfl rfl rfl hg2 rfl (y_geq rfl rfl rfl) ?_
      refine ol_y rfl rfl (y_pick_f rfl rfl hg2 rfl) ?_
      refine ol_y rfl rfl (y_move rfl rfl) ?_
      refine ol_split (t := 25) rfl (fun hg3 => ?_) (fun hg3 => ?_)
      · (try have hg3_ := of_decide_eq_true hg3)
        exfalso; omega
      · (try have hg3_ := of_decide_eq_false hg3)
        refine ol_gy rfl rfl rfl rfl hg3 rfl (y_move rfl rfl) ?_
        refine ol_gy rfl rfl rfl rfl hg3 rfl (y_move rfl rfl) ?_
        refine ol_gy rfl rfl rfl rfl hg3 rfl (y_nilCheck rfl rfl) ?_
        refine ol_gy rfl rfl rfl rfl hg3 rfl (y_fieldAddr rfl fo129_0 rfl) ?_
        refine ol_gy rfl rfl rfl rfl hg3 rfl (y_load rfl rfl (fun _ e => ldeq e (ld1 scl3 (cellH_blk (by assumption) rfl)))) ?_
        refine ol_gx rfl rfl rfl rfl hg3 rfl (x_call rfl go83 rfl (c_mask hw.1 hw.2)) ?_
        rintro _ _ ⟨rfl, rfl⟩
        refine ol_gy rfl rfl rfl rfl hg3 rfl (y_gtr rfl rfl rfl) ?_
        refine ol_y rfl rfl (y_pick_f rfl rfl hg3 rfl) ?_
        refine ol_nil ?_
        refine thenX_n ?_
        refine cd_cond _ rfl (fun hc0 => ?_) (fun hc0 => ?_)
        · (try replace hc0 := of_decide_eq_true hc0)
          exfalso; omega
        · (try replace hc0 := of_decide_eq_false hc0)
          refine cd_skip ?_
          refine thenX_n ?_
          refine cd_seq ?_
          refine cd_region ?_
          refine ol_y rfl rfl (y_move rfl rfl) ?_
          refine ol_y rfl rfl (y_move rfl rfl) ?_
          refine ol_y rfl rfl (y_nilCheck rfl rfl) ?_
          refine ol_y rfl rfl (y_fieldAddr rfl fo129_0 rfl) ?_
          refine ol_y rfl rfl (y_load rfl rfl (fun _ e => ldeq e (ld1 scl3 (cellH_blk (by assumption) rfl)))) ?_
          refine ol_y rfl rfl (y_muli rfl rfl rfl (in64 (by omega) (by omega))) ?_
          refine ol_y rfl rfl (y_assign rfl rfl) ?_
          refine ol_nil ?_
          refine thenX_n ?_
          refine cd_seq ?_
          refine cd_region ?_
          refine ol_y rfl rfl (y_move rfl rfl) ?_
          refine ol_y rfl rfl (y_quoi rfl rfl rfl (in64 (by omega) (by omega)) (by omega) (by omega)) ?_
          refine ol_y rfl rfl (y_move rfl rfl) ?_
          refine ol_y rfl rfl (y_remi rfl rfl rfl (by omega) (by omega)) ?_
          refine ol_y rfl rfl (y_assign rfl rfl) ?_
          refine ol_y rfl rfl (y_assign rfl rfl) ?_
          refine ol_nil ?_
          refine thenX_n ?_
          refine cd_seq ?_
          refine cd_region ?_
          refine ol_y rfl rfl (y_move rfl rfl) ?_
          refine ol_y rfl rfl (y_nilCheck rfl rfl) ?_
          refine ol_y rfl rfl (y_fieldAddr rfl fo129_0 rfl) ?_
          refine ol_y rfl rfl (y_load rfl rfl (fun _ e => ldeq e (ld1 scl3 (cellH_blk (by assumption) rfl)))) ?_
          refine ol_x rfl rfl (x_call rfl go83 rfl (c_mask hw.1 hw.2)) ?_
          rintro _ _ ⟨rfl, rfl⟩
          refine ol_y rfl rfl (y_assign rfl rfl) ?_
          refine ol_nil ?_
          refine thenX_n ?_
          refine cd_seq ?_
          refine cd_draw (some 21) (fun x => x = h) [(0, 0), (1, 0), (2, 0), (3, 1), (4, 0), (5, 0), (6, 0), (7, 0), (8, 1), (9, 0), (10, 0), (11, 1), (12, 0), (13, 0), (14, 0), (15, 0), (16, 0), (17, 0), (18, 0), (19, 0), (20, 0), (21, 2)] mixed (by kernel_rfl) (by kernel_rfl) (by kernel_rfl) ?_ ?_
          · exact rfl
          refine hs_p rfl rfl rfl (y_move rfl rfl) ?_
          refine hs_p rfl rfl rfl (y_nilCheck rfl rfl) ?_
          refine hs_p rfl rfl rfl (y_fieldAddr rfl fo129_2 rfl) ?_
          refine hs_y rfl rfl rfl (y_load rfl rfl (fun _ e => ldeq e (ld1 scl127 (cellH_blk (by assumption) rfl)))) ?_
          refine hs_p rfl rfl rfl (y_move rfl rfl) ?_
          refine hs_p rfl rfl rfl (y_move rfl rfl) ?_
          refine hs_p rfl rfl rfl (y_nilCheck rfl rfl) ?_
          refine hs_p rfl rfl rfl (y_fieldAddr rfl fo129_2 rfl) ?_
          refine hs_y rfl rfl rfl (y_load rfl rfl (fun _ e => ldeq e (ld1 scl127 (cellH_blk (by assumption) rfl)))) ?_
          refine hs_p rfl rfl rfl (y_move rfl rfl) ?_
          refine hs_p rfl rfl rfl (y_indexV rfl Try.underlying127 sz85 rfl (by first | assumption | exact SlV.mk' _ _ _ _) rfl (by omega) (by omega)) ?_
          refine hs_y rfl rfl rfl (y_load rfl rfl (fun _ e => ldeq e (ld_row scl85 (by assumption) (by omega) (by omega)))) ?_
          refine hs_p rfl rfl rfl (y_move rfl rfl) ?_
          refine hs_p rfl rfl rfl (y_move rfl rfl) ?_
          refine hs_p rfl rfl rfl (y_shl rfl rfl rfl (by omega)) ?_
          refine hs_p rfl rfl rfl (y_bits rfl rfl rfl rfl) ?_
          refine hs_p rfl rfl rfl (y_move rfl rfl) ?_
          refine hs_p rfl rfl rfl (y_move rfl rfl) ?_
          refine hs_p rfl rfl rfl (y_shl rfl rfl rfl (by omega)) ?_
          refine hs_p rfl rfl rfl (y_bits rfl rfl rfl rfl) ?_
          refine hs_p rfl rfl rfl (y_indexV rfl Try.underlying127 sz85 rfl (by first | assumption | exact SlV.mk' _ _ _ _) rfl (by omega) (by omega)) ?_
          have HF := H.front 1
          dsimp only [nthP, eraseP] at HF
          refine hs_xk rfl rfl rfl (x_setRow (f := Value.int .u64) rfl rfl rfl sz85 (fun _ => ⟨rfl, rfl⟩) (by omega) (by omega) HF) rfl ?_
          clear H HF
          rintro _ h6 ⟨rfl, hz, H⟩
          replace H := H.ins 1
          dsimp only [insP] at H
          have hb := H.obj 0 rfl
          have hwv := H.rowV eU_ok 1 rfl
          have hws := H.rowR eU_ok 1 rfl
          refine hs_nil ?_
          refine thenX_n ?_
          refine cd_seq ?_
          refine cd_seq ?_
          refine cd_region ?_
          refine ol_y rfl rfl (y_move rfl rfl) ?_
          refine ol_y rfl rfl (y_move rfl rfl) ?_
          refine ol_y rfl rfl (y_nilCheck rfl rfl) ?_
          refine ol_y rfl rfl (y_fieldAddr rfl fo129_0 rfl) ?_
          refine ol_y rfl rfl (y_load rfl rfl (fun _ e => ldeq e (ld1 scl3 (cellH_blk (by assumption) rfl)))) ?_
          refine ol_y rfl rfl (y_addi rfl rfl rfl (in64 (by omega) (by omega))) ?_
          refine ol_y rfl rfl (y_gtr rfl rfl rfl) ?_
          refine ol_nil ?_
          refine thenX_n ?_
          refine cd_cond _ rfl (fun hc1 => ?_) (fun hc1 => ?_)
          · (try replace hc1 := of_decide_eq_true hc1)
            refine cd_draw (some 25) (fun x => x = h6) [(0, 0), (1, 0), (2, 0), (3, 1), (4, 0), (5, 0), (6, 0), (7, 0), (8, 0), (9, 1), (10, 0), (11, 0), (12, 0), (13, 1), (14, 0), (15, 0), (16, 0), (17, 0), (18, 0), (19, 0), (20, 0), (21, 0), (22, 0), (23, 0), (24, 0), (25, 2)] mixed (by kernel_rfl) (by kernel_rfl) (by kernel_rfl) ?_ ?_
            · exact rfl
            refine hs_p rfl rfl rfl (y_move rfl rfl) ?_
            refine hs_p rfl rfl rfl (y_nilCheck rfl rfl) ?_
            refine hs_p rfl rfl rfl (y_fieldAddr rfl fo129_2 rfl) ?_
            refine hs_y rfl rfl rfl (y_load rfl rfl (fun _ e => ldeq e (ld1 scl127 (cellH_blk (by assumption) rfl)))) ?_
            refine hs_p rfl rfl rfl (y_move rfl rfl) ?_
            refine hs_p rfl rfl rfl (y_addi rfl rfl rfl (in64 (by omega) (by omega))) ?_
            refine hs_p rfl rfl rfl (y_move rfl rfl) ?_
            refine hs_p rfl rfl rfl (y_nilCheck rfl rfl) ?_
            refine hs_p rfl rfl rfl (y_fieldAddr rfl fo129_2 rfl) ?_
            refine hs_y rfl rfl rfl (y_load rfl rfl (fun _ e => ldeq e (ld1 scl127 (cellH_blk (by assumption) rfl)))) ?_
            refine hs_p rfl rfl rfl (y_move rfl rfl) ?_
            refine hs_p rfl rfl rfl (y_addi rfl rfl rfl (in64 (by omega) (by omega))) ?_
            refine hs_p rfl rfl rfl (y_indexV rfl Try.underlying127 sz85 rfl (by assumption) rfl (by omega) (by rw [List.length_set]; omega)) ?_
            refine hs_y rfl rfl rfl (y_load rfl rfl (fun _ e => ldeq e (ld_row scl85 (by assumption) (by omega) (by rw [List.length_set]; omega)))) ?_
            refine hs_p rfl rfl rfl (y_move rfl rfl) ?_
            refine hs_p rfl rfl rfl (y_move rfl rfl) ?_
            refine hs_p rfl rfl rfl (y_subi rfl rfl rfl (in64 (by omega) (by omega))) ?_
            refine hs_p rfl rfl rfl (y_shri rfl rfl rfl (by omega) (by show (_ : Int) ≤ 64; omega)) ?_
            refine hs_p rfl rfl rfl (y_bits rfl rfl rfl rfl) ?_
            refine hs_p rfl rfl rfl (y_move rfl rfl) ?_
            refine hs_p rfl rfl rfl (y_move rfl rfl) ?_
            refine hs_p rfl rfl rfl (y_subi rfl rfl rfl (in64 (by omega) (by omega))) ?_
            refine hs_p rfl rfl rfl (y_shri rfl rfl rfl (by omega) (by show (_ : Int) ≤ 64; omega)) ?_
            refine hs_p rfl rfl rfl (y_bits rfl rfl rfl rfl) ?_
            refine hs_p rfl rfl rfl (y_indexV rfl Try.underlying127 sz85 rfl (by assumption) rfl (by omega) (by rw [List.length_set]; omega)) ?_
            have HF := H.front 1
            dsimp only [nthP, eraseP] at HF
            refine hs_xk rfl rfl rfl (x_setRow (f := Value.int .u64) rfl rfl rfl sz85 (fun _ => ⟨rfl, rfl⟩) (by omega) (by rw [List.length_set]; omega) HF) rfl ?_
            clear H HF
            rintro _ h7 ⟨rfl, hz2, H⟩
            replace H := H.ins 1
            dsimp only [insP] at H
            refine hs_nil ?_
            refine thenX_n ?_
            refine cd_seq ?_
            refine cd_region ?_
            refine ol_y rfl rfl (y_assign rfl rfl) ?_
            refine ol_nil ?_
            refine thenX_n ?_
            refine cd_ret ?_
            refine ret1 Try.results51 rfl ?_
            refine ⟨rfl, by omega, ?_⟩
            unfold setW
            dsimp only
            first
              | (rw [if_pos (by omega)]; exact H)
              | (rw [if_neg (by omega)]; exact H)
          · (try replace hc1 := of_decide_eq_false hc1)
            refine cd_skip ?_
            refine thenX_n ?_
            refine cd_seq ?_
            refine cd_region ?_
            refine ol_y rfl rfl (y_assign rfl rfl) ?_
            refine ol_nil ?_
            refine thenX_n ?_
            refine cd_ret ?_
            refine ret1 Try.results51 rfl ?_
            refine ⟨rfl, by omega, ?_⟩
            unfold setW
            dsimp only
            first
              | (rw [if_pos (by omega)]; exact H)
              | (rw [if_neg (by omega)]; exact H)


end Go.X
