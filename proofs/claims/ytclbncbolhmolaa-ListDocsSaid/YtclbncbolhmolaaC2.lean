/- Contracts of pack and of rank.New: printed walks. -/
import Derived.Test.YtclbncbolhmolaaC1
namespace Go.X
open Go Go.Proofs
set_option linter.unusedVariables false
set_option linter.unusedSimpArgs false
attribute [local irreducible] rowP HP.obj HP.old

theorem c_need {h : Heap} {w n : Nat} (h1 : w ≤ 64) (h3 : n ≤ 4194304) :
    FnT Try.prog 82 [.int .i64 w, .int .i64 n] h (fun v h' => v = .int .i64 (((w * n + 63) / 64 : Nat) : Int) ∧ h = h') := by
  have hb2 : w * n ≤ 64 * 4194304 := Nat.mul_le_mul h1 h3
  have hq : ((w : Int) * n) = ((w * n : Nat) : Int) := by simp
  refine fn_enter Try.func82 rfl Try.ntmps82 rfl ?_
  refine cd_seq ?_
  refine cd_region ?_
  refine ol_y rfl rfl (y_assign rfl rfl) ?_
  refine ol_nil ?_
  refine thenX_n ?_
  refine cd_seq ?_
  refine cd_region ?_
  refine ol_y rfl rfl (y_move rfl rfl) ?_
  refine ol_y rfl rfl (y_move rfl rfl) ?_
  refine ol_y rfl rfl ((y_muli rfl rfl rfl (in64 (by omega) (by omega))).eq (vint hq)) ?_
  refine ol_y rfl rfl (y_addi rfl rfl rfl (in64 (by omega) (by omega))) ?_
  refine ol_y rfl rfl (y_quoi rfl rfl rfl (in64 (by omega) (by omega)) (by omega) (by omega)) ?_
  refine ol_y rfl rfl (y_assign rfl rfl) ?_
  refine ol_nil ?_
  refine thenX_n ?_
  refine cd_ret ?_
  refine ret1 Try.results82 rfl ?_
  exact ⟨vint (by omega), rfl⟩


theorem c_mask {h : Heap} {w : Nat} (h0 : 1 ≤ w) (h1 : w ≤ 64) :
    FnT Try.prog 83 [.int .i64 w] h (fun v h' => v = .int .u64 (maskI w) ∧ h = h') := by
  refine fn_enter Try.func83 rfl Try.ntmps83 rfl ?_
  refine cd_seq ?_
  refine cd_region ?_
  refine ol_y rfl rfl (y_assign rfl rfl) ?_
  refine ol_nil ?_
  refine thenX_n ?_
  refine cd_seq ?_
  refine cd_region ?_
  refine ol_y rfl rfl (y_move rfl rfl) ?_
  refine ol_y rfl rfl (y_subi rfl rfl rfl (in64 (by omega) (by omega))) ?_
  refine ol_y rfl rfl ((y_shri rfl rfl rfl (by omega) (by show (_ : Int) ≤ 64; omega)).eq (vint (maskI_shr h0 h1))) ?_
  refine ol_y rfl rfl (y_assign rfl rfl) ?_
  refine ol_nil ?_
  refine thenX_n ?_
  refine cd_ret ?_
  refine ret1 Try.results83 rfl ?_
  exact ⟨rfl, rfl⟩


theorem c_packNew {h : Heap} {w n : Nat} {L : List HP} (H : Sep h L) (h0 : 1 ≤ w) (h1 : w ≤ 64) (h3 : n ≤ 4194304) :
    FnT Try.prog 50 [.int .i64 w, .int .i64 n] h (fun v h' => h.size ≤ h'.size ∧ ∃ b wb wv, v = .tuple #[.pointer (some ⟨b, 0, none⟩), .int .i64 0] ∧ Sep h' (blk b [.int .i64 w, .int .i64 n, wv] 129 :: rowP eU 1 85 wv wb ((w * n + 63) / 64) (List.replicate ((w * n + 63) / 64) (0 : Int)) :: L)) := by
  have hb2 : w * n ≤ 64 * 4194304 := Nat.mul_le_mul h1 h3
  refine fn_enter Try.func50 rfl Try.ntmps50 rfl ?_
  refine cd_seq ?_
  refine cd_region ?_
  refine ol_y rfl rfl (y_assign rfl rfl) ?_
  refine ol_y rfl rfl (y_assign rfl rfl) ?_
  refine ol_nil ?_
  refine thenX_n ?_
  refine cd_seq ?_
  refine cd_seq ?_
  refine cd_region ?_
  refine ol_y rfl rfl (y_move rfl rfl) ?_
  refine ol_y rfl rfl (y_lss rfl rfl rfl) ?_
  refine ol_y rfl rfl (y_move rfl rfl) ?_
  refine ol_split (t := 8) rfl (fun hg1 => ?_) (fun hg1 => ?_)
  · (try have hg1_ := of_decide_eq_true hg1)
    exfalso; omega
  · (try have hg1_ := of_decide_eq_false hg1)
    refine ol_gy rfl rfl rfl rfl hg1 rfl (y_move rfl rfl) ?_
    refine ol_gy rfl rfl rfl rfl hg1 rfl (y_gtr rfl rfl rfl) ?_
    refine ol_y rfl rfl (y_pick_f rfl rfl hg1 rfl) ?_
    refine ol_y rfl rfl (y_move rfl rfl) ?_
    refine ol_split (t := 12) rfl (fun hg2 => ?_) (fun hg2 => ?_)
    · (try have hg2_ := of_decide_eq_true hg2)
      exfalso; omega
    · (try have hg2_ := of_decide_eq_false hg2)
      refine ol_gy rfl rfl rfl rfl hg2 rfl (y_move rfl rfl) ?_
      refine ol_gy rfl rfl rfl rfl hg2 rfl (y_lss rfl rfl rfl) ?_
      refine ol_y rfl rfl (y_pick_f rfl rfl hg2 rfl) ?_
      refine ol_y rfl rfl (y_move rfl rfl) ?_
      refine ol_split (t := 16) rfl (fun hg3 => ?_) (fun hg3 => ?_)
      · (try have hg3_ := of_decide_eq_true hg3)
        exfalso; omega
      · (try have hg3_ := of_decide_eq_false hg3)
        refine ol_gy rfl rfl rfl rfl hg3 rfl (y_move rfl rfl) ?_
        refine ol_gy rfl rfl rfl rfl hg3 rfl (y_gtr rfl rfl rfl) ?_
        refine ol_y rfl rfl (y_pick_f rfl rfl hg3 rfl) ?_
        refine ol_nil ?_
        refine thenX_n ?_
        refine cd_cond _ rfl (fun hc0 => ?_) (fun hc0 => ?_)
        · (try replace hc0 := of_decide_eq_true hc0)
          exfalso; omega
        · (try replace hc0 := of_decide_eq_false hc0)
          refine cd_skip ?_
          refine thenX_n ?_
          refine cd_seq ?_
          refine cd_region ?_
          refine ol_y rfl rfl (y_move rfl rfl) ?_
          refine ol_y rfl rfl (y_move rfl rfl) ?_
          refine ol_y rfl rfl (y_move rfl rfl) ?_
          refine ol_y rfl rfl (y_move rfl rfl) ?_
          refine ol_x rfl rfl (x_call rfl go82 rfl (c_need (by omega) (by omega))) ?_
          rintro _ _ ⟨rfl, rfl⟩
          refine ol_x rfl rfl (x_makeN (x0 := (0 : Int)) (enc := eU) rfl Try.underlying127 info85 rfl rfl rfl rfl (by omega) (by omega) (by omega) H) ?_
          clear H
          rintro _ h5 ⟨rfl, hz, H⟩
          refine ol_y rfl rfl (y_build (cs := [_, _, _]) rfl pl129 zero129 rfl) ?_
          refine ol_x rfl rfl (x_box rfl rfl rfl H) ?_
          clear H
          rintro _ h7 ⟨rfl, hz6, H⟩
          refine ol_y rfl rfl (y_assign rfl rfl) ?_
          refine ol_y rfl rfl (y_assign rfl rfl) ?_
          refine ol_nil ?_
          refine thenX_n ?_
          refine cd_ret ?_
          refine ret2 Try.results50 rfl rfl ?_
          exact ⟨by omega, _, _, _, rfl, H⟩


theorem c_IntsWidth {h : Heap} {b T : Nat} {w n : Int} {wv : Value} (hb : h[b]? = some (.cells [.int .i64 w, .int .i64 n, wv].toArray T (0, 0))) :
    FnT Try.prog 84 [.pointer (some ⟨b, 0, none⟩)] h (fun v h' => v = .int .i64 w ∧ h = h') := by
  refine fn_enter Try.func84 rfl Try.ntmps84 rfl ?_
  refine cd_seq ?_
  refine cd_region ?_
  refine ol_y rfl rfl (y_assign rfl rfl) ?_
  refine ol_nil ?_
  refine thenX_n ?_
  refine cd_seq ?_
  refine cd_seq ?_
  refine cd_region ?_
  refine ol_y rfl rfl (y_move rfl rfl) ?_
  refine ol_y rfl rfl (y_nilP rfl Try.underlying89 rfl rfl) ?_
  refine ol_nil ?_
  refine thenX_n ?_
  refine cd_cond _ rfl (fun hc0 => ?_) (fun hc0 => ?_)
  · (try replace hc0 := of_decide_eq_true hc0)
    cases hc0
  · (try replace hc0 := of_decide_eq_false hc0)
    refine cd_skip ?_
    refine thenX_n ?_
    refine cd_seq ?_
    refine cd_region ?_
    refine ol_y rfl rfl (y_move rfl rfl) ?_
    refine ol_y rfl rfl (y_nilCheck rfl rfl) ?_
    refine ol_y rfl rfl (y_fieldAddr rfl fo129_0 rfl) ?_
    refine ol_y rfl rfl (y_load rfl rfl (fun _ e => ldeq e (ld1 scl3 (cellH_blk (by assumption) rfl)))) ?_
    refine ol_y rfl rfl (y_assign rfl rfl) ?_
    refine ol_nil ?_
    refine thenX_n ?_
    refine cd_ret ?_
    refine ret1 Try.results84 rfl ?_
    exact ⟨rfl, rfl⟩


theorem c_IntsLen {h : Heap} {b T : Nat} {w n : Int} {wv : Value} (hb : h[b]? = some (.cells [.int .i64 w, .int .i64 n, wv].toArray T (0, 0))) :
    FnT Try.prog 85 [.pointer (some ⟨b, 0, none⟩)] h (fun v h' => v = .int .i64 n ∧ h = h') := by
  refine fn_enter Try.func85 rfl Try.ntmps85 rfl ?_
  refine cd_seq ?_
  refine cd_region ?_
  refine ol_y rfl rfl (y_assign rfl rfl) ?_
  refine ol_nil ?_
  refine thenX_n ?_
  refine cd_seq ?_
  refine cd_seq ?_
  refine cd_region ?_
  refine ol_y rfl rfl (y_move rfl rfl) ?_
  refine ol_y rfl rfl (y_nilP rfl Try.underlying89 rfl rfl) ?_
  refine ol_nil ?_
  refine thenX_n ?_
  refine cd_cond _ rfl (fun hc0 => ?_) (fun hc0 => ?_)
  · (try replace hc0 := of_decide_eq_true hc0)
    cases hc0
  · (try replace hc0 := of_decide_eq_false hc0)
    refine cd_skip ?_
    refine thenX_n ?_
    refine cd_seq ?_
    refine cd_region ?_
    refine ol_y rfl rfl (y_move rfl rfl) ?_
    refine ol_y rfl rfl (y_nilCheck rfl rfl) ?_
    refine ol_y rfl rfl (y_fieldAddr rfl fo129_1 rfl) ?_
    refine ol_y rfl rfl (y_load rfl rfl (fun _ e => ldeq e (ld1 scl3 (cellH_blk (by assumption) rfl)))) ?_
    refine ol_y rfl rfl (y_assign rfl rfl) ?_
    refine ol_nil ?_
    refine thenX_n ?_
    refine cd_ret ?_
    refine ret1 Try.results85 rfl ?_
    exact ⟨rfl, rfl⟩


theorem c_CloneU {h : Heap} {v : Value} {b p c : Nat} {xs : List Int} {L : List HP} (H : Sep h L) (hv : SlV v b p xs.length c) (hr : Rd eU 1 h b p xs) (hl : xs.length ≤ 4194304) :
    FnT Try.prog 105 [v] h (fun v' h' => h.size ≤ h'.size ∧ ∃ b' c', Sep h' (rowP eU 1 85 v' b' c' xs :: L)) := by
  obtain ⟨a, rfl, hn1, hn2⟩ := hv.out
  have hv : SlV (.slice a xs.length c) b p xs.length c := ⟨a, rfl, hn1, hn2⟩
  refine fn_enter Try.func105 rfl Try.ntmps105 rfl ?_
  refine cd_seq ?_
  refine cd_region ?_
  refine ol_y rfl rfl (y_assign rfl rfl) ?_
  refine ol_nil ?_
  refine thenX_n ?_
  refine cd_seq ?_
  refine cd_seq ?_
  refine cd_region ?_
  refine ol_y rfl rfl (y_move rfl rfl) ?_
  refine ol_y rfl rfl (y_nilS rfl Try.underlying127 rfl rfl) ?_
  refine ol_nil ?_
  refine thenX_n ?_
  refine cd_cond _ rfl (fun hc0 => ?_) (fun hc0 => ?_)
  · (try replace hc0 := of_decide_eq_true hc0)
    obtain ⟨e1, e2⟩ := hn1 (by cases a <;> first | rfl | cases hc0)
    obtain rfl := List.eq_nil_of_length_eq_zero e1
    refine cd_seq ?_
    refine cd_region ?_
    refine ol_y rfl rfl (y_assign rfl rfl) ?_
    refine ol_nil ?_
    refine thenX_n ?_
    refine cd_ret ?_
    refine thenX_r ?_
    refine ret1 Try.results105 rfl ?_
    exact ⟨Nat.le_refl _, 0, 0, H.rowNil _ _ _ _⟩
  · (try replace hc0 := of_decide_eq_false hc0)
    refine cd_skip ?_
    refine thenX_n ?_
    refine cd_seq ?_
    refine cd_region ?_
    refine ol_x rfl rfl (x_buildSlice rfl Try.underlying127 info85 rfl rfl rfl rfl H) ?_
    clear H
    rintro _ h1 ⟨rfl, hz, H⟩
    have hr2 := hz.2.rd hr
    have H := Sep.rowBlk (enc := eU) (xs := ([] : List Int)) eU_ok rfl (by decide) H
    refine ol_y rfl rfl (y_move rfl rfl) ?_
    refine ol_x rfl rfl (x_append (enc := eU) rfl Try.underlying127 info85 rfl (by decide) eU_ok rfl rfl hv hr2 rfl (by simp; omega) (by simp [maxLen]; omega) H) ?_
    clear H
    rintro v_ h2 ⟨hz2, b_, c_, H⟩
    refine ol_y rfl rfl (y_assign rfl rfl) ?_
    refine ol_nil ?_
    refine thenX_n ?_
    refine cd_ret ?_
    refine ret1 Try.results105 rfl ?_
    exact ⟨by omega, b_, c_, H⟩


theorem c_CloneI {h : Heap} {v : Value} {b p c : Nat} {xs : List Int} {L : List HP} (H : Sep h L) (hv : SlV v b p xs.length c) (hr : Rd eI 1 h b p xs) (hl : xs.length ≤ 4194304) :
    FnT Try.prog 49 [v] h (fun v' h' => h.size ≤ h'.size ∧ ∃ b' c', Sep h' (rowP eI 1 3 v' b' c' xs :: L)) := by
  obtain ⟨a, rfl, hn1, hn2⟩ := hv.out
  have hv : SlV (.slice a xs.length c) b p xs.length c := ⟨a, rfl, hn1, hn2⟩
  refine fn_enter Try.func49 rfl Try.ntmps49 rfl ?_
  refine cd_seq ?_
  refine cd_region ?_
  refine ol_y rfl rfl (y_assign rfl rfl) ?_
  refine ol_nil ?_
  refine thenX_n ?_
  refine cd_seq ?_
  refine cd_seq ?_
  refine cd_region ?_
  refine ol_y rfl rfl (y_move rfl rfl) ?_
  refine ol_y rfl rfl (y_nilS rfl Try.underlying22 rfl rfl) ?_
  refine ol_nil ?_
  refine thenX_n ?_
  refine cd_cond _ rfl (fun hc0 => ?_) (fun hc0 => ?_)
  · (try replace hc0 := of_decide_eq_true hc0)
    obtain ⟨e1, e2⟩ := hn1 (by cases a <;> first | rfl | cases hc0)
    obtain rfl := List.eq_nil_of_length_eq_zero e1
    refine cd_seq ?_
    refine cd_region ?_
    refine ol_y rfl rfl (y_assign rfl rfl) ?_
    refine ol_nil ?_
    refine thenX_n ?_
    refine cd_ret ?_
    refine thenX_r ?_
    refine ret1 Try.results49 rfl ?_
    exact ⟨Nat.le_refl _, 0, 0, H.rowNil _ _ _ _⟩
  · (try replace hc0 := of_decide_eq_false hc0)
    refine cd_skip ?_
    refine thenX_n ?_
    refine cd_seq ?_
    refine cd_region ?_
    refine ol_x rfl rfl (x_buildSlice rfl Try.underlying22 info3 rfl rfl rfl rfl H) ?_
    clear H
    rintro _ h1 ⟨rfl, hz, H⟩
    have hr2 := hz.2.rd hr
    have H := Sep.rowBlk (enc := eI) (xs := ([] : List Int)) eI_ok rfl (by decide) H
    refine ol_y rfl rfl (y_move rfl rfl) ?_
    refine ol_x rfl rfl (x_append (enc := eI) rfl Try.underlying22 info3 rfl (by decide) eI_ok rfl rfl hv hr2 rfl (by simp; omega) (by simp [maxLen]; omega) H) ?_
    clear H
    rintro v_ h2 ⟨hz2, b_, c_, H⟩
    refine ol_y rfl rfl (y_assign rfl rfl) ?_
    refine ol_nil ?_
    refine thenX_n ?_
    refine cd_ret ?_
    refine ret1 Try.results49 rfl ?_
    exact ⟨by omega, b_, c_, H⟩


end Go.X
