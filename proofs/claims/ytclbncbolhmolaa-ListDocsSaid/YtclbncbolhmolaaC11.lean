/- best.Next, Top: printed walks. -/
import Derived.Test.YtclbncbolhmolaaC10
namespace Go.X
open Go Go.Proofs
set_option linter.unusedVariables false
set_option linter.unusedSimpArgs false
attribute [local irreducible] rowP HP.obj HP.old lessP
/-- what the next best number is -/
structure NextP (W : Nat) (l A : List Int) (q : List Prt) (x : Pr) (f : Bool) (q' : List Prt) : Prop where
  ok : QOk W l A q'
  cs : (f = false ∧ x = (0, 0) ∧ q' = [] ∧ ∀ R, Rem W A q R → R = []) ∨ (f = true ∧ (∀ R, Rem W A q R → ∃ R', R = x :: R' ∧ Rem W A q' R') ∧ sumL ps0 q' + 1 ≤ sumL ps0 q)
structure NG where
  q : List Prt
  qv : Value
  qb : Nat
  qc : Nat
structure TG where
  q : List Prt
  qv : Value
  qb : Nat
  qc : Nat
  out : List Pr
  ov : Value
  ob : Nat
  oc : Nat

theorem c_Next {h h0 : Heap} {sb qb qc W : Nat} {po : Option Addr} {qv : Value} {q : List Prt} {l A : List Int} {vbs : List Nat} {L : List HP} (H : Sep h (blk sb [.pointer po, qv] 99 :: rowP ePt 5 102 qv qb qc q :: HP.old h0 :: L)) (hm : MatV h0 po l W vbs) (hQ : QOk W l A q) :
    FnT Try.prog 24 [.pointer (some ⟨sb, 0, none⟩)] h (fun v h' => ∃ x f q' qv' qb' qc', v = .tuple #[.agg (ePr x).toArray, .bool f] ∧ NextP W l A q x f q' ∧ Sep h' (blk sb [.pointer po, qv'] 99 :: rowP ePt 5 102 qv' qb' qc' q' :: HP.old h0 :: L)) := by
  refine fn_enter Try.func24 rfl Try.ntmps24 rfl ?_
  refine cd_seq ?_
  refine cd_region ?_
  refine ol_x rfl rfl (x_alloc rfl zero41 H) ?_
  clear H
  rintro _ h2 ⟨rfl, hz1, H⟩
  replace H : Sep h2 (blk h.size [.int .i64 0, .int .i64 0] 41 :: blk sb [.pointer po, qv] 99 :: rowP ePt 5 102 qv qb qc q :: HP.old h0 :: L) := H
  replace H := H.front 3
  dsimp only [nthP, eraseP] at H
  replace H := H.front 3
  dsimp only [nthP, eraseP] at H
  replace H := H.front 3
  dsimp only [nthP, eraseP] at H
  refine ol_y rfl rfl (y_assign rfl rfl) ?_
  refine ol_nil ?_
  refine thenX_n ?_
  refine cd_block ?_
  refine cd_loop (γ := NG) (fun g => [(0, .pointer (some ⟨sb, 0, none⟩)), (2, .pointer (some ⟨h.size, 0, none⟩))]) (fun g h' => QOk W l A g.q ∧ (∀ R, Rem W A q R → Rem W A g.q R) ∧ sumL ps0 g.q = sumL ps0 q ∧ Sep h' (blk sb [.pointer po, g.qv] 99 :: rowP ePt 5 102 g.qv g.qb g.qc g.q :: HP.old h0 :: blk h.size [.int .i64 0, .int .i64 0] 41 :: L)) (fun g => sumL (ps1 W) g.q) (⟨q, qv, qb, qc⟩) ?_ ?_ ?_
  · (repeat (first | exact trivial | refine ⟨rfl, ?_⟩))
  · exact ⟨hQ, fun _ h => h, rfl, H⟩
  · skip
    rintro ⟨q1, qv1, qb1, qc1⟩ ρ h3 ⟨hQ1, hR1, hs1, H⟩
    (try dsimp only)
    dsimp only at hQ1 hR1 hs1 H
    refine cd_block ?_
    refine cd_seq ?_
    refine cd_region ?_
    refine ol_y rfl rfl (y_move rfl rfl) ?_
    refine ol_x rfl rfl (x_call rfl go23 rfl (c_Step H hm hQ1)) ?_
    clear H
    rintro _ h5 ⟨x, f, m, q2, qv2, qb2, qc2, rfl, hS, H⟩
    refine ol_y rfl rfl (y_move rfl rfl) ?_
    refine ol_y rfl rfl (y_extract rfl rfl rfl) ?_
    refine ol_y rfl rfl (y_extract rfl rfl rfl) ?_
    refine ol_y rfl rfl (y_extract rfl rfl rfl) ?_
    refine ol_x rfl rfl (x_alloc rfl zero41 H) ?_
    clear H
    rintro _ h7 ⟨rfl, hz6, H⟩
    refine ol_x rfl rfl (by first | exact x_storeW rfl rfl rfl rfl sz41 rfl H 0 rfl rfl rfl | exact x_storeW rfl rfl rfl rfl sz41 rfl H 1 rfl rfl rfl | exact x_storeW rfl rfl rfl rfl sz41 rfl H 2 rfl rfl rfl | exact x_storeW rfl rfl rfl rfl sz41 rfl H 3 rfl rfl rfl | exact x_storeW rfl rfl rfl rfl sz41 rfl H 4 rfl rfl rfl | exact x_storeW rfl rfl rfl rfl sz41 rfl H 5 rfl rfl rfl) ?_
    clear H
    rintro _ h9 ⟨rfl, hz8, H⟩
    dsimp only [setP, List.set] at H
    have hfb := H.obj 0 rfl
    refine ol_y rfl rfl (y_assign rfl rfl) ?_
    refine ol_y rfl rfl (y_assign rfl rfl) ?_
    refine ol_nil ?_
    refine thenX_n ?_
    refine cd_seq ?_
    refine cd_region ?_
    refine ol_y rfl rfl (y_move rfl rfl) ?_
    refine ol_y rfl rfl (y_move rfl rfl) ?_
    refine ol_split (t := 14) rfl (fun hg10 => ?_) (fun hg10 => ?_)
    · (try have hg10_ := of_decide_eq_true hg10)
      have hgx := hg10
      refine ol_gn rfl rfl rfl rfl hg10 rfl ?_
      refine ol_gn rfl rfl rfl rfl hg10 rfl ?_
      refine ol_y rfl rfl (y_pick_t rfl rfl hg10 rfl) ?_
      refine ol_nil ?_
      refine thenX_n ?_
      refine cd_true rfl rfl ?_
      refine cd_seq ?_
      refine cd_region ?_
      refine ol_y rfl rfl (y_load rfl rfl (fun _ e => ldeq e (ldBlk agg41 (by assumption) rfl))) ?_
      refine ol_y rfl rfl (y_move rfl rfl) ?_
      refine ol_x rfl rfl (by first | exact x_storeW rfl rfl rfl rfl sz41 rfl H 0 rfl rfl rfl | exact x_storeW rfl rfl rfl rfl sz41 rfl H 1 rfl rfl rfl | exact x_storeW rfl rfl rfl rfl sz41 rfl H 2 rfl rfl rfl | exact x_storeW rfl rfl rfl rfl sz41 rfl H 3 rfl rfl rfl | exact x_storeW rfl rfl rfl rfl sz41 rfl H 4 rfl rfl rfl | exact x_storeW rfl rfl rfl rfl sz41 rfl H 5 rfl rfl rfl) ?_
      clear H
      rintro _ h12 ⟨rfl, hz11, H⟩
      dsimp only [setP, List.set] at H
      have hcb := H.obj 4 rfl
      refine ol_y rfl rfl (y_assign rfl rfl) ?_
      refine ol_nil ?_
      refine thenX_n ?_
      refine cd_ret ?_
      refine blockX_r ?_
      refine thenX_r ?_
      refine blockX_r ?_
      refine ret2c Try.results24 rfl (ldBlk agg41 (by assumption) rfl) rfl ?_
      have H1 := (H.drop.front 3).drop
      dsimp only [nthP, eraseP] at H1
      refine ⟨x, f, q2, qv2, qb2, qc2, rfl, ⟨hS.ok, ?_⟩, H1⟩
      rcases hS.cs with ⟨e1, e2, e3, e4, e5⟩ | ⟨e0, e1, e2, e3, e4, e5, e6⟩ | ⟨e0, e1, e2, e3, e4, e5, e6⟩
      · exact .inl ⟨e2, e5, e4, fun R hR => by have := hR1 R hR; rw [e1] at this; exact rem_nil this⟩
      · exact .inr ⟨e2, fun R hR => e3 R (hR1 R hR), by omega⟩
      · exfalso
        first
          | (rw [e2] at hgx; cases hgx; done)
          | (rw [e1] at hc0; cases hc0; done)
    · (try have hg10_ := of_decide_eq_false hg10)
      have hgx := hg10
      refine ol_gy rfl rfl rfl rfl hg10 rfl (y_move rfl rfl) ?_
      refine ol_gy rfl rfl rfl rfl hg10 rfl (y_not rfl rfl) ?_
      refine ol_y rfl rfl (y_pick_f rfl rfl hg10 rfl) ?_
      refine ol_nil ?_
      refine thenX_n ?_
      refine cd_cond _ rfl (fun hc0 => ?_) (fun hc0 => ?_)
      · (try replace hc0 := of_decide_eq_true hc0)
        refine cd_seq ?_
        refine cd_region ?_
        refine ol_y rfl rfl (y_load rfl rfl (fun _ e => ldeq e (ldBlk agg41 (by assumption) rfl))) ?_
        refine ol_y rfl rfl (y_move rfl rfl) ?_
        refine ol_x rfl rfl (by first | exact x_storeW rfl rfl rfl rfl sz41 rfl H 0 rfl rfl rfl | exact x_storeW rfl rfl rfl rfl sz41 rfl H 1 rfl rfl rfl | exact x_storeW rfl rfl rfl rfl sz41 rfl H 2 rfl rfl rfl | exact x_storeW rfl rfl rfl rfl sz41 rfl H 3 rfl rfl rfl | exact x_storeW rfl rfl rfl rfl sz41 rfl H 4 rfl rfl rfl | exact x_storeW rfl rfl rfl rfl sz41 rfl H 5 rfl rfl rfl) ?_
        clear H
        rintro _ h14 ⟨rfl, hz13, H⟩
        dsimp only [setP, List.set] at H
        have hcb := H.obj 4 rfl
        refine ol_y rfl rfl (y_assign rfl rfl) ?_
        refine ol_nil ?_
        refine thenX_n ?_
        refine cd_ret ?_
        refine blockX_r ?_
        refine thenX_r ?_
        refine blockX_r ?_
        refine ret2c Try.results24 rfl (ldBlk agg41 (by assumption) rfl) rfl ?_
        have H1 := (H.drop.front 3).drop
        dsimp only [nthP, eraseP] at H1
        refine ⟨x, f, q2, qv2, qb2, qc2, rfl, ⟨hS.ok, ?_⟩, H1⟩
        rcases hS.cs with ⟨e1, e2, e3, e4, e5⟩ | ⟨e0, e1, e2, e3, e4, e5, e6⟩ | ⟨e0, e1, e2, e3, e4, e5, e6⟩
        · exact .inl ⟨e2, e5, e4, fun R hR => by have := hR1 R hR; rw [e1] at this; exact rem_nil this⟩
        · exact .inr ⟨e2, fun R hR => e3 R (hR1 R hR), by omega⟩
        · exfalso
          first
            | (rw [e2] at hgx; cases hgx; done)
            | (rw [e1] at hc0; cases hc0; done)
      · (try replace hc0 := of_decide_eq_false hc0)
        refine cd_skip ?_
        refine blockX_n ?_
        refine thenX_n ?_
        have hm1 : m = true := by simpa using hc0
        rcases hS.cs with ⟨e1, e2, e3, _⟩ | ⟨e0, e1, e2, _⟩ | ⟨e0, e1, e2, e3, e4, e5, e6⟩
        · rw [e3] at hm1; cases hm1
        · rw [e2] at hgx; cases hgx
        · exact ⟨⟨q2, qv2, qb2, qc2⟩, ⟨rfl, rfl, trivial⟩, ⟨hS.ok, fun R hR => e4 R (hR1 R hR), by (try dsimp only); omega, H.drop⟩, e6⟩


theorem c_Top {h h0 : Heap} {W : Nat} {po : Option Addr} {l A : List Int} {vbs : List Nat} {a b k : Int} {L : List HP} (H : Sep h (HP.old h0 :: L)) (hm : MatV h0 po l W vbs) (hQ : QOk W l A (putQ [] ⟨0, 0, 0, max a 0, min b l.length⟩)) :
    FnT Try.prog 21 [.pointer po, .int .i64 a, .int .i64 b, .int .i64 k] h (fun v h' => ∃ ob oc out, Sep h' (rowP ePr 2 41 v ob oc out :: HP.old h0 :: L) ∧ ∀ R, Rem W A (putQ [] ⟨0, 0, 0, max a 0, min b l.length⟩) R → out = R.take k.toNat) := by
  have hn := hm.n
  generalize hq0 : putQ [] (⟨0, 0, 0, max a 0, min b l.length⟩ : Prt) = q0 at *
  refine fn_enter Try.func21 rfl Try.ntmps21 rfl ?_
  refine cd_seq ?_
  refine cd_region ?_
  refine ol_y rfl rfl (y_assign rfl rfl) ?_
  have hm1 := hm.ext (H.ext 0 rfl)
  refine ol_nil ?_
  refine thenX_n ?_
  refine cd_seq ?_
  refine cd_region ?_
  refine ol_y rfl rfl (y_move rfl rfl) ?_
  refine ol_y rfl rfl (y_move rfl rfl) ?_
  refine ol_y rfl rfl (y_move rfl rfl) ?_
  refine ol_x rfl rfl (x_call rfl go22 rfl (c_bestNew H hm1)) ?_
  clear H
  rintro _ h2 ⟨sb, qv, qb, qc, rfl, H⟩
  rw [hq0] at H
  refine ol_y rfl rfl (y_assign rfl rfl) ?_
  refine ol_nil ?_
  refine thenX_n ?_
  refine cd_seq ?_
  refine cd_region ?_
  refine ol_y rfl rfl (y_assign rfl rfl) ?_
  refine ol_nil ?_
  refine thenX_n ?_
  refine cd_seq ?_
  refine cd_block ?_
  refine cd_loop (γ := TG) (fun g => [(3, .int .i64 k), (9, .pointer (some ⟨sb, 0, none⟩)), (10, g.ov)]) (fun g h' => QOk W l A g.q ∧ (∀ R, Rem W A q0 R → ∃ R', R = g.out ++ R' ∧ Rem W A g.q R') ∧ g.out.length + sumL ps0 g.q ≤ l.length ∧ g.out.length ≤ k.toNat ∧ Sep h' (blk sb [.pointer po, g.qv] 99 :: rowP ePt 5 102 g.qv g.qb g.qc g.q :: HP.old h0 :: rowP ePr 2 41 g.ov g.ob g.oc g.out :: L)) (fun g => k.toNat - g.out.length) (⟨q0, qv, qb, qc, [], .slice none 0 0, 0, 0⟩) ?_ ?_ ?_
  · (repeat (first | exact trivial | refine ⟨rfl, ?_⟩))
  · refine ⟨hQ, fun R hR => ⟨R, rfl, hR⟩, by have := hQ.sm; (try dsimp only); simp only [List.length_nil]; omega, Nat.zero_le _, ?_⟩
    exact (H.rowNil ePr 2 41 0).ins 3
  · skip
    rintro ⟨q1, qv1, qb1, qc1, out, ov, ob, oc⟩ ρ h3 ⟨hQ1, hR1, hs1, hk1, H⟩
    (try dsimp only)
    dsimp only at hQ1 hR1 hs1 hk1 H
    have hov := H.rowV ePr_ok 3 rfl
    refine cd_seq ?_
    refine cd_seq ?_
    refine cd_region ?_
    refine ol_y rfl rfl (y_move rfl rfl) ?_
    refine ol_y rfl rfl (y_lenV rfl Try.underlying30 rfl (by first | assumption | exact SlV.mk' _ _ _ _)) ?_
    refine ol_y rfl rfl (y_move rfl rfl) ?_
    refine ol_y rfl rfl (y_lss rfl rfl rfl) ?_
    refine ol_nil ?_
    refine thenX_n ?_
    refine cd_cond _ rfl (fun hc0 => ?_) (fun hc0 => ?_)
    · (try replace hc0 := of_decide_eq_true hc0)
      refine cd_skip ?_
      refine thenX_n ?_
      refine cd_block ?_
      refine cd_seq ?_
      refine cd_region ?_
      refine ol_y rfl rfl (y_move rfl rfl) ?_
      refine ol_x rfl rfl (x_call rfl go24 rfl (c_Next H hm hQ1)) ?_
      clear H
      rintro _ h5 ⟨x, f, q2, qv2, qb2, qc2, rfl, hN, H⟩
      refine ol_y rfl rfl (y_move rfl rfl) ?_
      refine ol_y rfl rfl (y_extract rfl rfl rfl) ?_
      refine ol_y rfl rfl (y_extract rfl rfl rfl) ?_
      refine ol_x rfl rfl (x_alloc rfl zero41 H) ?_
      clear H
      rintro _ h7 ⟨rfl, hz6, H⟩
      refine ol_x rfl rfl (by first | exact x_storeW rfl rfl rfl rfl sz41 rfl H 0 rfl rfl rfl | exact x_storeW rfl rfl rfl rfl sz41 rfl H 1 rfl rfl rfl | exact x_storeW rfl rfl rfl rfl sz41 rfl H 2 rfl rfl rfl | exact x_storeW rfl rfl rfl rfl sz41 rfl H 3 rfl rfl rfl | exact x_storeW rfl rfl rfl rfl sz41 rfl H 4 rfl rfl rfl | exact x_storeW rfl rfl rfl rfl sz41 rfl H 5 rfl rfl rfl) ?_
      clear H
      rintro _ h9 ⟨rfl, hz8, H⟩
      dsimp only [setP, List.set] at H
      have hfb := H.obj 0 rfl
      refine ol_y rfl rfl (y_assign rfl rfl) ?_
      refine ol_nil ?_
      refine thenX_n ?_
      refine cd_seq ?_
      refine cd_seq ?_
      refine cd_region ?_
      refine ol_y rfl rfl (y_move rfl rfl) ?_
      refine ol_y rfl rfl (y_not rfl rfl) ?_
      refine ol_nil ?_
      refine thenX_n ?_
      refine cd_cond _ rfl (fun hc1 => ?_) (fun hc1 => ?_)
      · (try replace hc1 := of_decide_eq_true hc1)
        refine cd_exit ?_
        refine thenX_e ?_
        refine blockX_miss rfl ?_
        refine thenX_e ?_
        refine blockX_hit ?_
        refine thenX_n ?_
        refine cd_seq ?_
        refine cd_region ?_
        refine ol_y rfl rfl (y_move rfl rfl) ?_
        refine ol_y rfl rfl (y_assign rfl rfl) ?_
        refine ol_nil ?_
        refine thenX_n ?_
        refine cd_ret ?_
        refine ret1 Try.results21 rfl ?_
        first
          | (have H1 := H.drop.drop.swap
             refine ⟨ob, oc, out, H1, fun R hR => ?_⟩
             obtain ⟨R', rfl, h2⟩ := hR1 R hR
             rw [List.take_left' (by omega)])
          | (have H1 := H.drop.drop.drop.swap
             refine ⟨ob, oc, out, H1, fun R hR => ?_⟩
             obtain ⟨R', rfl, h2⟩ := hR1 R hR
             rcases hN.cs with ⟨e1, e2, e3, e4⟩ | ⟨e1, _⟩
             · rw [e4 R' h2, List.append_nil, List.take_of_length_le hk1]
             · rw [e1] at hc1; cases hc1)
      · (try replace hc1 := of_decide_eq_false hc1)
        refine cd_skip ?_
        refine thenX_n ?_
        refine cd_region ?_
        refine ol_y rfl rfl (y_move rfl rfl) ?_
        refine ol_y rfl rfl (y_load rfl rfl (fun _ e => ldeq e (ldBlk agg41 (by assumption) rfl))) ?_
        have hfb := H.obj 0 rfl
        refine ol_x rfl rfl (x_buildSlice (cs := [_, _]) rfl Try.underlying30 info41 rfl rfl rfl rfl H) ?_
        clear H
        rintro _ h10 ⟨rfl, hz_b, H⟩
        replace H := Sep.rowBlk (enc := ePr) (xs := [x]) ePr_ok rfl (one_maxLen _) H
        have hv6_3 := H.rowV ePr_ok 0 rfl
        have hr6_3 := H.rowR ePr_ok 0 rfl
        replace H := H.drop
        have HF := H.front 4
        dsimp only [nthP, eraseP] at HF
        refine ol_x rfl rfl (x_append (enc := ePr) rfl Try.underlying30 info41 rfl (by decide) ePr_ok rfl rfl hv6_3 hr6_3 rfl (by simp only [List.length_cons, List.length_nil, maxLen]; omega) (by simp only [List.length_cons, List.length_nil, maxLen]; omega) HF) ?_
        clear H HF hv6_3 hr6_3
        rintro ov2 h11 ⟨hz_, ob2, oc2, H⟩
        replace H := H.ins 4
        dsimp only [insP] at H
        have hov2 := H.rowV ePr_ok 4 rfl
        refine ol_y rfl rfl (y_assign rfl rfl) ?_
        refine ol_nil ?_
        refine blockX_n ?_
        refine thenX_n ?_
        have hf1 : f = true := by simpa using hc1
        rcases hN.cs with ⟨e1, _⟩ | ⟨e1, e2, e3⟩
        · rw [e1] at hf1; cases hf1
        · refine ⟨⟨q2, qv2, qb2, qc2, out ++ [x], ov2, ob2, oc2⟩, ⟨rfl, rfl, rfl, trivial⟩, ⟨hN.ok, fun R hR => ?_, by simp only [List.length_append, List.length_cons, List.length_nil]; omega, by simp only [List.length_append, List.length_cons, List.length_nil]; omega, H.drop⟩, by simp only [List.length_append, List.length_cons, List.length_nil]; omega⟩
          obtain ⟨R', rfl, h2⟩ := hR1 R hR
          obtain ⟨R'', rfl, h3⟩ := e2 R' h2
          exact ⟨R'', by simp, h3⟩
    · (try replace hc0 := of_decide_eq_false hc0)
      refine cd_exit ?_
      refine thenX_e ?_
      refine thenX_e ?_
      refine blockX_hit ?_
      refine thenX_n ?_
      refine cd_seq ?_
      refine cd_region ?_
      refine ol_y rfl rfl (y_move rfl rfl) ?_
      refine ol_y rfl rfl (y_assign rfl rfl) ?_
      refine ol_nil ?_
      refine thenX_n ?_
      refine cd_ret ?_
      refine ret1 Try.results21 rfl ?_
      first
        | (have H1 := H.drop.drop.swap
           refine ⟨ob, oc, out, H1, fun R hR => ?_⟩
           obtain ⟨R', rfl, h2⟩ := hR1 R hR
           rw [List.take_left' (by omega)])
        | (have H1 := H.drop.drop.drop.swap
           refine ⟨ob, oc, out, H1, fun R hR => ?_⟩
           obtain ⟨R', rfl, h2⟩ := hR1 R hR
           rcases hN.cs with ⟨e1, e2, e3, e4⟩ | ⟨e1, _⟩
           · rw [e4 R' h2, List.append_nil, List.take_of_length_le hk1]
           · rw [e1] at hc1; cases hc1)


end Go.X
