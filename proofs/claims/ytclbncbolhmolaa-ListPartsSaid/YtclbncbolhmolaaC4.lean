/- rank.New: printed walk; a list of bits as a part of the heap. -/
import Derived.Test.YtclbncbolhmolaaC3
namespace Go.X
open Go Go.Proofs
set_option linter.unusedVariables false
set_option linter.unusedSimpArgs false

structure VecG where
  wv : Value
  av : Value
  wb : Nat
  wc : Nat
  ab : Nat
  ac : Nat
  ws : List Int
def vecP (b : Nat) (f : Nat → Bool) (n : Nat) : HP := HP.ex fun x : VecG => (HP.pure (WordsOf x.ws f n ∧ n ≤ 4194304)).sep ((blk b [.int .i64 n, x.wv, x.av, .int .i64 (cntF f n)] 132).sep ((rowP eU 1 85 x.wv x.wb x.wc x.ws).sep (rowP eI 1 3 x.av x.ab x.ac (aheads f ((x.ws.length + 7) / 8)))))
theorem vecP_F {h : Heap} {b n : Nat} {f : Nat → Bool} {L : List HP} (H : Sep h (vecP b f n :: L)) : VecF h b f n := by
  obtain ⟨x, H⟩ := H.open_
  obtain ⟨⟨hW, hn⟩, H⟩ := H.split.pureD
  have H := H.split
  have hb := H.obj 0 rfl
  have H := H.front 1
  have H := Sep.split (A := rowP eU 1 85 x.wv x.wb x.wc x.ws) H
  have r1 := H.row eU_ok 0 rfl
  have r2 := H.row eI_ok 1 rfl
  exact ⟨⟨_, x.wv, x.av, x.wb, x.wc, x.ab, x.ac, x.ws, aheads f ((x.ws.length + 7) / 8), hb, r1.1, r1.2.1, r2.1, r2.2.1, hW, aheads_length _ _, fun k h0 h1 => aheads_gt f _ k h0 h1, hn⟩⟩
attribute [local irreducible] rowP HP.obj HP.old

theorem c_rankNew {h : Heap} {b T wb wc n : Nat} {wv : Value} {ws : List Int} {f : Nat → Bool} {L : List HP} (H : Sep h L) (hb : h[b]? = some (.cells [.int .i64 1, .int .i64 n, wv].toArray T (0, 0))) (hwv : SlV wv wb 0 ws.length wc) (hws : Rd eU 1 h wb 0 ws) (hW : WordsOf ws f n) (hn : n ≤ 4194304) :
    FnT Try.prog 52 [.pointer (some ⟨b, 0, none⟩)] h (fun v h' => h.size ≤ h'.size ∧ ∃ vb, v = .tuple #[.pointer (some ⟨vb, 0, none⟩), .int .i64 0] ∧ Sep h' (vecP vb f n :: L)) := by
  have hwl := hW.len
  refine fn_enter Try.func52 rfl Try.ntmps52 rfl ?_
  refine cd_seq ?_
  refine cd_region ?_
  refine ol_y rfl rfl (y_assign rfl rfl) ?_
  refine ol_y rfl rfl (y_assign rfl rfl) ?_
  refine ol_nil ?_
  refine thenX_n ?_
  refine cd_seq ?_
  refine cd_block ?_
  refine cd_seq ?_
  refine cd_region ?_
  refine ol_y rfl rfl (y_move rfl rfl) ?_
  refine ol_y rfl rfl (y_nilP rfl Try.underlying89 rfl rfl) ?_
  refine ol_y rfl rfl (y_assign rfl rfl) ?_
  refine ol_nil ?_
  refine thenX_n ?_
  refine cd_false rfl rfl ?_
  refine cd_seq ?_
  refine cd_region ?_
  refine ol_y rfl rfl (y_move rfl rfl) ?_
  refine ol_x rfl rfl (x_call rfl go84 rfl (c_IntsWidth hb)) ?_
  rintro _ _ ⟨rfl, rfl⟩
  refine ol_y rfl rfl (y_neq rfl rfl rfl) ?_
  refine ol_y rfl rfl (y_assign rfl rfl) ?_
  refine ol_nil ?_
  refine thenX_n ?_
  refine cd_false rfl rfl ?_
  refine cd_skip ?_
  refine blockX_n ?_
  refine thenX_n ?_
  refine cd_seq ?_
  refine cd_region ?_
  refine ol_y rfl rfl (y_move rfl rfl) ?_
  refine ol_x rfl rfl (x_call rfl go85 rfl (c_IntsLen hb)) ?_
  rintro _ _ ⟨rfl, rfl⟩
  refine ol_y rfl rfl (y_move rfl rfl) ?_
  refine ol_x rfl rfl (x_call rfl go86 rfl (c_IntsWords H hb hwv hws (by omega))) ?_
  clear H
  rintro v_ hw ⟨hz, b_, c_, H⟩
  obtain ⟨a_, rfl, hn1_, hn2_⟩ := (H.rowV eU_ok 0 rfl).out
  refine ol_y rfl rfl (y_build (cs := [_, _, _, _]) rfl pl132 zero132 rfl) ?_
  refine ol_x rfl rfl (x_box rfl rfl rfl H) ?_
  clear H
  rintro _ h5 ⟨rfl, hz4, H⟩
  replace H : Sep h5 (blk hw.size [.int .i64 n, .slice a_ ws.length c_, .slice none 0 0, .int .i64 0] 132 :: rowP eU 1 85 (.slice a_ ws.length c_) b_ c_ ws :: L) := H
  have hvb := H.obj 0 rfl
  have hv_ := H.rowV eU_ok 1 rfl
  refine ol_y rfl rfl (y_assign rfl rfl) ?_
  refine ol_nil ?_
  refine thenX_n ?_
  refine cd_seq ?_
  refine cd_seq ?_
  refine cd_region ?_
  refine ol_y rfl rfl (y_move rfl rfl) ?_
  refine ol_y rfl rfl (y_nilCheck rfl rfl) ?_
  refine ol_y rfl rfl (y_fieldAddr rfl fo132_1 rfl) ?_
  refine ol_y rfl rfl (y_load rfl rfl (fun _ e => ldeq e (ld1 scl127 (cellH_blk (by assumption) rfl)))) ?_
  refine ol_y rfl rfl (y_lenV rfl Try.underlying127 rfl (by first | assumption | exact SlV.mk' _ _ _ _)) ?_
  refine ol_y rfl rfl (y_move rfl rfl) ?_
  refine ol_nil ?_
  refine thenX_n ?_
  refine cd_block ?_
  refine cd_loop (γ := Nat × Value × Nat × Nat) (fun g => [(4, .pointer (some ⟨hw.size, 0, none⟩)), (23, .slice a_ ws.length c_), (24, .int .i64 ws.length), (25, .int .i64 g.1)]) (fun g h' => hw.size < h'.size ∧ g.1 ≤ ws.length ∧ Sep h' (blk hw.size [.int .i64 n, .slice a_ ws.length c_, g.2.1, .int .i64 (cntF f (64 * g.1))] 132 :: rowP eI 1 3 g.2.1 g.2.2.1 g.2.2.2 (aheads f ((g.1 + 7) / 8)) :: rowP eU 1 85 (.slice a_ ws.length c_) b_ c_ ws :: L)) (fun g => ws.length - g.1) ((0, .slice none 0 0, 0, 0)) ?_ ?_ ?_
  · (repeat (first | exact trivial | refine ⟨rfl, ?_⟩))
  · exact ⟨by omega, Nat.zero_le _, by have H2 := (H.rowNil eI 1 3 0).swap; exact H2⟩
  · skip
    rintro ⟨k, av, ab, ac⟩ ρ h6 ⟨hsz, hk, H⟩
    (try dsimp only)
    dsimp only at hsz hk H
    have hvb := H.obj 0 rfl
    have hv2 := H.rowV eU_ok 2 rfl
    have hr2 := H.rowR eU_ok 2 rfl
    refine cd_seq ?_
    refine cd_region ?_
    refine ol_y rfl rfl (y_lss rfl rfl rfl) ?_
    refine ol_nil ?_
    refine thenX_n ?_
    refine cd_seq ?_
    refine cd_cond _ rfl (fun hc2 => ?_) (fun hc2 => ?_)
    · (try replace hc2 := of_decide_eq_true hc2)
      have hpop := popN_le (gt ws (k : Int)).toNat
      have hpp := hW.pop (k := (k : Int)) (by omega) (by omega)
      simp only [Int.toNat_natCast] at hpp
      have hle := cntF_le f (64 * k)
      refine cd_skip ?_
      refine thenX_n ?_
      refine cd_seq ?_
      refine cd_block ?_
      refine cd_seq ?_
      refine cd_region ?_
      refine ol_y rfl rfl (y_move rfl rfl) ?_
      refine ol_y rfl rfl (y_indexV rfl Try.underlying127 sz85 rfl (by first | assumption | exact SlV.mk' _ _ _ _) rfl (by omega) (by omega)) ?_
      refine ol_y rfl rfl (y_load rfl rfl (fun _ e => ldeq e (ld_row scl85 (by assumption) (by omega) (by omega)))) ?_
      refine ol_y rfl rfl (y_assign rfl rfl) ?_
      refine ol_y rfl rfl (y_assign rfl rfl) ?_
      refine ol_nil ?_
      refine thenX_n ?_
      refine cd_seq ?_
      refine cd_seq ?_
      refine cd_region ?_
      refine ol_y rfl rfl (y_move rfl rfl) ?_
      refine ol_y rfl rfl (y_remi rfl rfl rfl (by omega) (by omega)) ?_
      refine ol_y rfl rfl (y_eql rfl rfl rfl) ?_
      refine ol_nil ?_
      refine thenX_n ?_
      refine cd_cond _ rfl (fun hc3 => ?_) (fun hc3 => ?_)
      · (try replace hc3 := of_decide_eq_true hc3)
        refine cd_draw (some 10) (Ext h6) [(0, 0), (1, 0), (2, 0), (3, 0), (4, 1), (5, 0), (6, 0), (7, 0), (8, 1), (9, 2), (10, 2), (11, 0), (12, 0), (13, 3)] mixed (by kernel_rfl) (by kernel_rfl) (by kernel_rfl) ?_ ?_
        · exact Ext.refl _
        refine hs_p rfl rfl rfl (y_move rfl rfl) ?_
        refine hs_p rfl rfl rfl (y_move rfl rfl) ?_
        refine hs_p rfl rfl rfl (y_nilCheck rfl rfl) ?_
        refine hs_p rfl rfl rfl (y_fieldAddr rfl fo132_2 rfl) ?_
        refine hs_y rfl rfl rfl (y_load rfl rfl (fun x hx => ((ld1 scl22 (cellH_blk (by assumption) rfl))).ext hx)) ?_
        refine hs_p rfl rfl rfl (y_move rfl rfl) ?_
        refine hs_p rfl rfl rfl (y_nilCheck rfl rfl) ?_
        refine hs_p rfl rfl rfl (y_fieldAddr rfl fo132_3 rfl) ?_
        refine hs_y rfl rfl rfl (y_load rfl rfl (fun x hx => ((ld1 scl3 (cellH_blk (by assumption) rfl))).ext hx)) ?_
        refine hs_x rfl rfl rfl (x_buildSlice (cs := [_]) rfl Try.underlying22 info3 rfl rfl rfl rfl H) ?_
        clear H
        rintro _ h7 ⟨rfl, hzbb, H⟩
        replace H := Sep.rowBlk (enc := eI) (xs := [((cntF f (64 * k) : Nat) : Int)]) eI_ok rfl (one_maxLen _) H
        have hv10_10 := H.rowV eI_ok 0 rfl
        have hr10_10 := H.rowR eI_ok 0 rfl
        replace H := H.drop
        refine ⟨hzbb.2, ?_⟩
        have HF := H.front 1
        dsimp only [nthP, eraseP] at HF
        refine hs_xk rfl rfl rfl (x_append (enc := eI) rfl Try.underlying22 info3 rfl (by decide) eI_ok rfl rfl hv10_10 hr10_10 rfl (by simp only [aheads_length, List.length_cons, List.length_nil]; omega) (by simp only [aheads_length, List.length_cons, List.length_nil]; simp only [maxLen]; omega) HF) rfl ?_
        clear H HF hv10_10 hr10_10
        rintro av2 h8 ⟨hzb, ab2, ac2, H⟩
        replace H := H.ins 1
        dsimp only [insP] at H
        have hav2 := H.rowV eI_ok 1 rfl
        refine hs_p rfl rfl rfl (y_nilCheck rfl rfl) ?_
        refine hs_p rfl rfl rfl (y_fieldAddr rfl fo132_2 rfl) ?_
        refine hs_xa rfl rfl rfl (by first | exact x_storeV rfl rfl rfl (by first | assumption | exact SlV.mk' _ _ _ _ | exact SlV.nil 0 0) sz22 H 0 rfl rfl rfl | exact x_storeV rfl rfl rfl (by first | assumption | exact SlV.mk' _ _ _ _ | exact SlV.nil 0 0) sz22 H 1 rfl rfl rfl | exact x_storeV rfl rfl rfl (by first | assumption | exact SlV.mk' _ _ _ _ | exact SlV.nil 0 0) sz22 H 2 rfl rfl rfl | exact x_storeV rfl rfl rfl (by first | assumption | exact SlV.mk' _ _ _ _ | exact SlV.nil 0 0) sz22 H 3 rfl rfl rfl | exact x_storeV rfl rfl rfl (by first | assumption | exact SlV.mk' _ _ _ _ | exact SlV.nil 0 0) sz22 H 4 rfl rfl rfl | exact x_storeV rfl rfl rfl (by first | assumption | exact SlV.mk' _ _ _ _ | exact SlV.nil 0 0) sz22 H 5 rfl rfl rfl) ?_
        clear H
        rintro _ h10 ⟨rfl, hz9, H⟩
        dsimp only [setP, List.set] at H
        have hvb := H.obj 0 rfl
        refine hs_nil ?_
        refine thenX_n ?_
        refine cd_draw (some 9) (fun x => x = h10) [(0, 0), (1, 0), (2, 0), (3, 1), (4, 0), (5, 2), (6, 0), (7, 0), (8, 0), (9, 2)] mixed (by kernel_rfl) (by kernel_rfl) (by kernel_rfl) ?_ ?_
        · exact rfl
        refine hs_p rfl rfl rfl (y_move rfl rfl) ?_
        refine hs_p rfl rfl rfl (y_nilCheck rfl rfl) ?_
        refine hs_p rfl rfl rfl (y_fieldAddr rfl fo132_3 rfl) ?_
        refine hs_y rfl rfl rfl (y_load rfl rfl (fun _ e => ldeq e (ld1 scl3 (cellH_blk (by assumption) rfl)))) ?_
        refine hs_p rfl rfl rfl (y_move rfl rfl) ?_
        refine hs_x rfl rfl rfl (x_call rfl go87 rfl (c_OnesCount64 (hW.gt_rng (k := (k : Int)) (by omega) (by omega)).1 (hW.gt_rng (by omega) (by omega)).2)) ?_
        rintro _ _ ⟨rfl, rfl⟩
        refine ⟨rfl, ?_⟩
        refine hs_p rfl rfl rfl (y_addi rfl rfl rfl (in64 (by omega) (by omega))) ?_
        refine hs_p rfl rfl rfl (y_nilCheck rfl rfl) ?_
        refine hs_p rfl rfl rfl (y_fieldAddr rfl fo132_3 rfl) ?_
        refine hs_xk rfl rfl rfl (by first | exact x_store rfl rfl rfl rfl sz3 rfl H 0 rfl rfl rfl | exact x_store rfl rfl rfl rfl sz3 rfl H 1 rfl rfl rfl | exact x_store rfl rfl rfl rfl sz3 rfl H 2 rfl rfl rfl | exact x_store rfl rfl rfl rfl sz3 rfl H 3 rfl rfl rfl | exact x_store rfl rfl rfl rfl sz3 rfl H 4 rfl rfl rfl | exact x_store rfl rfl rfl rfl sz3 rfl H 5 rfl rfl rfl) rfl ?_
        clear H
        rintro _ h13 ⟨rfl, hz12, H⟩
        dsimp only [setP, List.set] at H
        refine hs_nil ?_
        refine blockX_n ?_
        refine thenX_n ?_
        refine cd_region ?_
        refine ol_y rfl rfl (y_addi rfl rfl rfl (in64 (by omega) (by omega))) ?_
        refine ol_y rfl rfl (y_move rfl rfl) ?_
        refine ol_nil ?_
        refine thenX_n ?_
        have e1 : ((cntF f (64 * (k + 1)) : Nat) : Int) = cntF f (64 * k) + popN (gt ws (k : Int)).toNat := by omega
        first
          | (refine ⟨(k + 1, av2, ab2, ac2), ⟨rfl, rfl, rfl, vint (by simp), trivial⟩, ⟨by (try dsimp only); omega, by (try dsimp only); omega, ?_⟩, by (try dsimp only); omega⟩
             (try dsimp only)
             rw [e1, show (k + 1 + 7) / 8 = (k + 7) / 8 + 1 by omega, aheads_succ, show 512 * ((k + 7) / 8) = 64 * k by omega]
             exact H)
          | (refine ⟨(k + 1, av, ab, ac), ⟨rfl, rfl, rfl, vint (by simp), trivial⟩, ⟨by (try dsimp only); omega, by (try dsimp only); omega, ?_⟩, by (try dsimp only); omega⟩
             (try dsimp only)
             rw [e1, show (k + 1 + 7) / 8 = (k + 7) / 8 by omega]
             exact H)
      · (try replace hc3 := of_decide_eq_false hc3)
        refine cd_skip ?_
        refine thenX_n ?_
        refine cd_draw (some 9) (fun x => x = h6) [(0, 0), (1, 0), (2, 0), (3, 1), (4, 0), (5, 2), (6, 0), (7, 0), (8, 0), (9, 2)] mixed (by kernel_rfl) (by kernel_rfl) (by kernel_rfl) ?_ ?_
        · exact rfl
        refine hs_p rfl rfl rfl (y_move rfl rfl) ?_
        refine hs_p rfl rfl rfl (y_nilCheck rfl rfl) ?_
        refine hs_p rfl rfl rfl (y_fieldAddr rfl fo132_3 rfl) ?_
        refine hs_y rfl rfl rfl (y_load rfl rfl (fun _ e => ldeq e (ld1 scl3 (cellH_blk (by assumption) rfl)))) ?_
        refine hs_p rfl rfl rfl (y_move rfl rfl) ?_
        refine hs_x rfl rfl rfl (x_call rfl go87 rfl (c_OnesCount64 (hW.gt_rng (k := (k : Int)) (by omega) (by omega)).1 (hW.gt_rng (by omega) (by omega)).2)) ?_
        rintro _ _ ⟨rfl, rfl⟩
        refine ⟨rfl, ?_⟩
        refine hs_p rfl rfl rfl (y_addi rfl rfl rfl (in64 (by omega) (by omega))) ?_
        refine hs_p rfl rfl rfl (y_nilCheck rfl rfl) ?_
        refine hs_p rfl rfl rfl (y_fieldAddr rfl fo132_3 rfl) ?_
        refine hs_xk rfl rfl rfl (by first | exact x_store rfl rfl rfl rfl sz3 rfl H 0 rfl rfl rfl | exact x_store rfl rfl rfl rfl sz3 rfl H 1 rfl rfl rfl | exact x_store rfl rfl rfl rfl sz3 rfl H 2 rfl rfl rfl | exact x_store rfl rfl rfl rfl sz3 rfl H 3 rfl rfl rfl | exact x_store rfl rfl rfl rfl sz3 rfl H 4 rfl rfl rfl | exact x_store rfl rfl rfl rfl sz3 rfl H 5 rfl rfl rfl) rfl ?_
        clear H
        rintro _ h16 ⟨rfl, hz15, H⟩
        dsimp only [setP, List.set] at H
        refine hs_nil ?_
        refine blockX_n ?_
        refine thenX_n ?_
        refine cd_region ?_
        refine ol_y rfl rfl (y_addi rfl rfl rfl (in64 (by omega) (by omega))) ?_
        refine ol_y rfl rfl (y_move rfl rfl) ?_
        refine ol_nil ?_
        refine thenX_n ?_
        have e1 : ((cntF f (64 * (k + 1)) : Nat) : Int) = cntF f (64 * k) + popN (gt ws (k : Int)).toNat := by omega
        first
          | (refine ⟨(k + 1, av2, ab2, ac2), ⟨rfl, rfl, rfl, vint (by simp), trivial⟩, ⟨by (try dsimp only); omega, by (try dsimp only); omega, ?_⟩, by (try dsimp only); omega⟩
             (try dsimp only)
             rw [e1, show (k + 1 + 7) / 8 = (k + 7) / 8 + 1 by omega, aheads_succ, show 512 * ((k + 7) / 8) = 64 * k by omega]
             exact H)
          | (refine ⟨(k + 1, av, ab, ac), ⟨rfl, rfl, rfl, vint (by simp), trivial⟩, ⟨by (try dsimp only); omega, by (try dsimp only); omega, ?_⟩, by (try dsimp only); omega⟩
             (try dsimp only)
             rw [e1, show (k + 1 + 7) / 8 = (k + 7) / 8 by omega]
             exact H)
    · (try replace hc2 := of_decide_eq_false hc2)
      refine cd_exit ?_
      refine thenX_e ?_
      refine thenX_e ?_
      refine blockX_hit ?_
      refine thenX_n ?_
      refine cd_seq ?_
      refine cd_region ?_
      refine ol_y rfl rfl (y_move rfl rfl) ?_
      refine ol_y rfl rfl (y_assign rfl rfl) ?_
      refine ol_y rfl rfl (y_assign rfl rfl) ?_
      refine ol_nil ?_
      refine thenX_n ?_
      refine cd_ret ?_
      refine ret2 Try.results52 rfl rfl ?_
      have ek : k = ws.length := by omega
      subst ek
      refine ⟨by omega, hw.size, rfl, ?_⟩
      rw [cntF_tail f (m := n) (by omega) hW.out] at H
      have H1 := H.front 1
      dsimp only [nthP, eraseP] at H1
      have H2 := (Sep.join (H1.front 2)).front 1
      dsimp only [nthP, eraseP] at H2
      exact Sep.close (⟨.slice a_ ws.length c_, av, b_, c_, ab, ac, ws⟩ : VecG) (Sep.join (Sep.pureI ⟨hW, hn⟩ (Sep.join H2)))


end Go.X
