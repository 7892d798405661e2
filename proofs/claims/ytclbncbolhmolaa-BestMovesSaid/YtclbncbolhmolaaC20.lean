/- BestAll: printed walk. -/
import Derived.Test.YtclbncbolhmolaaC19
namespace Go.X
open Go Go.Proofs
set_option linter.unusedVariables false
set_option linter.unusedSimpArgs false
attribute [local irreducible] rowP HP.obj HP.old
structure AG where
  i : Nat
  all_ : Nat
  idle : Nat
  n : Nat
  q : List Prt
  qv : Value
  qb : Nat
  qc : Nat
  last : Pr
theorem bl255 : max 1 (bl 255) = 8 := by decide
theorem root_sums {l : List Int} {a b : Int} : sumL ps0 (putQ [] ⟨0, 0, 0, max a 0, min b l.length⟩) = (sliceL l (max a 0).toNat (min b l.length).toNat).length ∧ sumL (ps1 8) (putQ [] ⟨0, 0, 0, max a 0, min b l.length⟩) = 8 * (sliceL l (max a 0).toNat (min b l.length).toNat).length := by
  rw [putQ_nil]
  rcases Int.lt_or_le (max a 0) (min b (l.length : Int)) with h | h
  · rw [if_pos h, sliceL_len _ (by omega)]
    simp only [sumL, ps0, ps1, Int.toNat_zero, Nat.sub_zero, Nat.add_zero]
    omega
  · rw [if_neg (by (try dsimp only); omega), sliceL_nil _ (by omega)]
    simp [sumL]
/-- what is true ahead of each step -/
structure AllI (l A : List Int) (R : List Pr) (g : AG) : Prop where
  ok : QOk 8 l A g.q
  rem : ∃ R1, Rem 8 A g.q R1 ∧ g.n + R1.length = R.length ∧ ∀ x ∈ R1, better g.last x
  all_ : g.all_ + sumL ps0 g.q = A.length
  idle : g.idle + sumL (ps1 8) g.q ≤ 8 * A.length
  steps : g.i + sumL (ps1 8) g.q ≤ 8 * A.length + g.n
theorem AllI.start {l A : List Int} {R : List Pr} {q : List Prt} {qv : Value} {qb qc m : Nat} (h1 : QOk 8 l A q) (hR : RankOf A R) (h2 : Rem 8 A q R) (h3 : sumL ps0 q = A.length) (h4 : sumL (ps1 8) q = 8 * A.length) (hm : A.length ≤ m) : AllI l A R ⟨0, 0, 0, 0, q, qv, qb, qc, (0, (m : Int) + 1)⟩ :=
  ⟨h1, ⟨R, h2, by simp, fun x hx => by
    have := ((hR.mem x).1 hx).2
    have hc := List.count_le_length (a := x.1) (l := A)
    left; (try dsimp only); omega⟩, by (try dsimp only); omega, by (try dsimp only); omega, by (try dsimp only); omega⟩
/-- an idle step -/
theorem AllI.idle_ {l A : List Int} {R : List Pr} {g : AG} {x : Pr} {m : Bool} {q2 : List Prt} {qv : Value} {qb qc : Nat} (H : AllI l A R g) (hS : StepP 8 l A g.q x false m q2) (hm : m = true) : AllI l A R ⟨g.i + 1, g.all_, g.idle + 1, g.n, q2, qv, qb, qc, g.last⟩ := by
  rcases hS.cs with ⟨e1, e2, e3, _⟩ | ⟨e0, e1, e2, _⟩ | ⟨e0, e1, e2, e3, e4, e5, e6⟩
  · rw [e3] at hm; cases hm
  · cases e2
  · obtain ⟨R1, r1, r2, r3⟩ := H.rem
    have := H.all_; have := H.idle; have := H.steps
    exact ⟨hS.ok, ⟨R1, e4 _ r1, r2, r3⟩, by (try dsimp only); omega, by (try dsimp only); omega, by (try dsimp only); omega⟩
theorem AllI.found {l A : List Int} {R : List Pr} {g : AG} {x : Pr} {m : Bool} {q2 : List Prt} {qv : Value} {qb qc : Nat} (H : AllI l A R g) (hS : StepP 8 l A g.q x true m q2) : better g.last x ∧ 1 ≤ x.2 ∧ x.2 ≤ A.length ∧ AllI l A R ⟨g.i + 1, g.all_ + x.2.toNat, 0, g.n + 1, q2, qv, qb, qc, x⟩ := by
  rcases hS.cs with ⟨e1, e2, e3, _⟩ | ⟨e0, e1, e2, e3, e4, e5, e6⟩ | ⟨e0, e1, e2, _⟩
  · cases e2
  · obtain ⟨R1, r1, r2, r3⟩ := H.rem
    obtain ⟨R2, rfl, r4⟩ := e3 _ r1
    have := H.all_; have := H.idle; have := H.steps
    simp only [List.length_cons] at r2
    exact ⟨r3 x (by simp), e4, by omega, hS.ok, ⟨R2, r4, by (try dsimp only); omega, (List.pairwise_cons.1 r1.so).1⟩, by (try dsimp only); omega, by (try dsimp only); omega, by (try dsimp only); omega⟩
  · cases e2
theorem AllI.stop {l A : List Int} {R : List Pr} {g : AG} {x : Pr} {f m : Bool} {q2 : List Prt} (H : AllI l A R g) (hS : StepP 8 l A g.q x f m q2) (hm : m = false) : q2 = [] ∧ g.all_ = A.length ∧ g.n = R.length := by
  rcases hS.cs with ⟨e1, e2, e3, e4, e5⟩ | ⟨e0, e1, e2, _⟩ | ⟨e0, e1, e2, _⟩
  · obtain ⟨R1, r1, r2, r3⟩ := H.rem
    have ha := H.all_
    rw [e1] at r1 ha
    obtain rfl := rem_nil r1
    simp [sumL] at ha r2
    exact ⟨e4, ha, r2⟩
  · rw [hm] at e1; cases e1
  · rw [hm] at e1; cases e1
theorem AllI.bound {l A : List Int} {R : List Pr} {g : AG} (H : AllI l A R g) (hR : R.length ≤ A.length) : g.i ≤ 9 * A.length ∧ g.n ≤ A.length ∧ g.idle ≤ 8 * A.length ∧ g.all_ ≤ A.length := by
  obtain ⟨R1, r1, r2, r3⟩ := H.rem
  have := H.steps; have := H.idle; have := H.all_
  omega
theorem next_none {l A : List Int} {q q2 : List Prt} {x : Pr} {f : Bool} (h : q = []) (H : NextP 8 l A q x f q2) : f = false := by
  rcases H.cs with ⟨e1, _⟩ | ⟨e1, e2, _⟩
  · exact e1
  · exfalso
    obtain ⟨R', e, _⟩ := e2 [] ⟨.nil, fun pr => by rw [h]; simp⟩
    cases e

theorem c_BestAll {h : Heap} {v : Value} {b p c : Nat} {l : List Int} {a0 a1 : Int} (hv : SlV v b p l.length c) (hr : Rd eI 1 h b p l) :
    FnT Try.prog 5 [v, .agg #[.int .i64 a0, .int .i64 a1]] h (fun v h' => v = .bool true ∧ Ext h h') := by
  have H := Sep.start h
  refine fn_enter Try.func5 rfl Try.ntmps5 rfl ?_
  refine cd_seq ?_
  refine cd_region ?_
  refine ol_x rfl rfl (x_box rfl rfl rfl H) ?_
  clear H
  rintro v3 h1 ⟨hv3, hz00, H⟩
  obtain ⟨h1b, hh1b⟩ : ∃ b, h.size = b := ⟨_, rfl⟩
  rw [hh1b] at hv3 H
  subst hv3
  have hbx := H.obj 0 rfl
  refine ol_y rfl rfl (y_assign rfl rfl) ?_
  refine ol_nil ?_
  refine thenX_n ?_
  refine cd_seq ?_
  refine cd_seq ?_
  refine cd_region ?_
  refine ol_x rfl rfl (x_call rfl go15 rfl c_first18) ?_
  rintro _ h3 ⟨rfl, hx⟩
  replace H := H.extend hx
  replace hbx := hx.get hbx
  have hr1 := (H.ext 1 rfl).rd hr
  refine ol_y rfl rfl (y_not rfl rfl) ?_
  refine ol_nil ?_
  refine thenX_n ?_
  refine cd_false rfl rfl ?_
  refine cd_skip ?_
  refine thenX_n ?_
  refine cd_seq ?_
  refine cd_seq ?_
  refine cd_region ?_
  refine ol_y rfl rfl (y_move rfl rfl) ?_
  refine ol_y rfl rfl (y_lenV rfl Try.underlying22 rfl (by first | assumption | exact SlV.mk' _ _ _ _)) ?_
  refine ol_y rfl rfl (y_gtr rfl rfl rfl) ?_
  refine ol_y rfl rfl (y_move rfl rfl) ?_
  refine ol_split (t := 23) rfl (fun hg4 => ?_) (fun hg4 => ?_)
  · (try have hg4_ := of_decide_eq_true hg4)
    refine ol_gn rfl rfl rfl rfl hg4 rfl ?_
    refine ol_gn rfl rfl rfl rfl hg4 rfl ?_
    refine ol_gn rfl rfl rfl rfl hg4 rfl ?_
    refine ol_y rfl rfl (y_pick_t rfl rfl hg4 rfl) ?_
    refine ol_nil ?_
    refine thenX_n ?_
    refine cd_true rfl rfl ?_
    refine cd_seq ?_
    refine cd_region ?_
    refine ol_y rfl rfl (y_assign rfl rfl) ?_
    refine ol_nil ?_
    refine thenX_n ?_
    refine cd_ret ?_
    refine thenX_r ?_
    refine ret1 Try.results5 rfl ?_
    exact ⟨rfl, H.ext 1 rfl⟩
  · (try have hg4_ := of_decide_eq_false hg4)
    refine ol_gy rfl rfl rfl rfl hg4 rfl (y_move rfl rfl) ?_
    refine ol_gx rfl rfl rfl rfl hg4 rfl (x_call rfl go16 rfl (c_Right hv hr1 (by omega) (by decide))) ?_
    rintro _ _ ⟨rfl, rfl⟩
    refine ol_gy rfl rfl rfl rfl hg4 rfl (y_not rfl rfl) ?_
    refine ol_y rfl rfl (y_pick_f rfl rfl hg4 rfl) ?_
    refine ol_nil ?_
    refine thenX_n ?_
    refine cd_cond _ rfl (fun hc1 => ?_) (fun hc1 => ?_)
    · (try replace hc1 := of_decide_eq_true hc1)
      refine cd_seq ?_
      refine cd_region ?_
      refine ol_y rfl rfl (y_assign rfl rfl) ?_
      refine ol_nil ?_
      refine thenX_n ?_
      refine cd_ret ?_
      refine thenX_r ?_
      refine ret1 Try.results5 rfl ?_
      exact ⟨rfl, H.ext 1 rfl⟩
    · (try replace hc1 := of_decide_eq_false hc1)
      have hrow : ∀ x ∈ l, 0 ≤ x ∧ x ≤ 255 := fun x hx => by
        have h1 : l.all (inAl 256) = true := by simpa using hc1
        have h2 := List.all_eq_true.1 h1 x hx
        have h3 := of_decide_eq_true h2
        omega
      refine cd_skip ?_
      refine thenX_n ?_
      refine cd_seq ?_
      refine cd_region ?_
      refine ol_y rfl rfl (y_move rfl rfl) ?_
      refine ol_x rfl rfl (x_call rfl go17 rfl (c_waveNew (m := 255) hv hr1 (by omega) (by decide) hrow)) ?_
      rintro _ h2 ⟨mb, vbs, rfl, hx2, hm⟩
      rw [bl255] at hm
      have hE0 := (H.ext 1 rfl).trans hx2
      replace hbx := hx2.get hbx
      replace hr1 := hx2.rd hr1
      clear H
      have H := Sep.start h2
      refine ol_y rfl rfl (y_move rfl rfl) ?_
      refine ol_y rfl rfl (y_extract rfl rfl rfl) ?_
      refine ol_y rfl rfl (y_extract rfl rfl rfl) ?_
      refine ol_y rfl rfl (y_assign rfl rfl) ?_
      refine ol_y rfl rfl (y_assign rfl rfl) ?_
      refine ol_nil ?_
      refine thenX_n ?_
      refine cd_seq ?_
      refine cd_region ?_
      refine ol_y rfl rfl (y_move rfl rfl) ?_
      refine ol_y rfl rfl (y_indexAddrA rfl Try.underlying23 sz3 rfl rfl (by omega) (by omega)) ?_
      refine ol_y rfl rfl (y_load rfl rfl (fun _ e => ldeq e (ld1 scl3 (cellH_blk (by assumption) rfl)))) ?_
      refine ol_y rfl rfl (y_indexAddrA rfl Try.underlying23 sz3 rfl rfl (by omega) (by omega)) ?_
      refine ol_y rfl rfl (y_load rfl rfl (fun _ e => ldeq e (ld1 scl3 (cellH_blk (by assumption) rfl)))) ?_
      refine ol_x rfl rfl (x_call rfl go19 rfl (c_Part H hv hr1 (by omega))) ?_
      rintro pv h3 ⟨pb_, pc, H⟩
      rw [partI_slice _ _ _ _ (Nat.le_refl _)] at H
      have hsum := root_sums (l := l) (a := a0) (b := a1)
      have hAl := sliceL_le l (max a0 0).toNat (min a1 (l.length : Int)).toNat
      have hRk := rankedL_of (sliceL l (max a0 0).toNat (min a1 l.length).toNat)
      have hRl := rankedL_le (sliceL l (max a0 0).toNat (min a1 l.length).toNat)
      have hq0 := root_ok (W := 8) (a := a0) (b := a1) hm.rng
      have hre0 := root_rem (W := 8) (a := a0) (b := a1) hm.rng hRk
      have hDD : ∀ D, PairsOf (sliceL l (max a0 0).toNat (min a1 l.length).toNat) D → D.length = (rankedL (sliceL l (max a0 0).toNat (min a1 l.length).toNat)).length := fun D hD => (pairs_rank hD hRk).1
      have hAA : ∃ A, (sliceL l (max a0 0).toNat (min a1 l.length).toNat) = A := ⟨_, rfl⟩
      obtain ⟨A, hA⟩ := hAA
      rw [hA] at H hsum hAl hRk hRl hq0 hre0
      have hx3 := H.ext 1 rfl
      have hpv := H.rowV eI_ok 0 rfl
      clear H
      replace hbx := hx3.get hbx
      replace hm := hm.ext hx3
      replace hE0 := hE0.trans hx3
      have H := Sep.start h3
      refine ol_y rfl rfl (y_assign rfl rfl) ?_
      refine ol_nil ?_
      refine thenX_n ?_
      refine cd_seq ?_
      refine cd_region ?_
      refine ol_y rfl rfl (y_move rfl rfl) ?_
      refine ol_y rfl rfl (y_indexAddrA rfl Try.underlying23 sz3 rfl rfl (by omega) (by omega)) ?_
      refine ol_y rfl rfl (y_load rfl rfl (fun _ e => ldeq e (ld1 scl3 (cellH_blk (by assumption) rfl)))) ?_
      refine ol_y rfl rfl (y_indexAddrA rfl Try.underlying23 sz3 rfl rfl (by omega) (by omega)) ?_
      refine ol_y rfl rfl (y_load rfl rfl (fun _ e => ldeq e (ld1 scl3 (cellH_blk (by assumption) rfl)))) ?_
      refine ol_x rfl rfl (x_call rfl go22 rfl (c_bestNew H (.inr ⟨mb, rfl, hm⟩))) ?_
      clear H
      rintro _ h9 ⟨sb, qv, qb, qc, rfl, H⟩
      generalize hgq : putQ [] (⟨0, 0, 0, max a0 0, min a1 l.length⟩ : Prt) = q0 at *
      refine ol_y rfl rfl (y_assign rfl rfl) ?_
      refine ol_nil ?_
      refine thenX_n ?_
      refine cd_seq ?_
      refine cd_region ?_
      refine ol_y rfl rfl (y_move rfl rfl) ?_
      refine ol_y rfl rfl (y_lenV rfl Try.underlying22 rfl (by first | assumption | exact SlV.mk' _ _ _ _)) ?_
      refine ol_y rfl rfl ((y_addi rfl rfl rfl (in64 (by omega) (by omega))).eq (vint (show _ = ((l.length : Nat) : Int) + 1 by omega))) ?_
      refine ol_y rfl rfl (y_build (cs := [_, _]) rfl pl41 zero41 rfl) ?_
      refine ol_x rfl rfl (x_alloc rfl zero41 H) ?_
      clear H
      rintro v9 h10 ⟨hv9, hz84, H⟩
      obtain ⟨lb, hlb⟩ : ∃ b, h9.size = b := ⟨_, rfl⟩
      rw [hlb] at hv9 H
      subst hv9
      refine ol_x rfl rfl (by first | exact x_storeW rfl rfl rfl rfl sz41 rfl H 0 rfl rfl rfl | exact x_storeW rfl rfl rfl rfl sz41 rfl H 1 rfl rfl rfl | exact x_storeW rfl rfl rfl rfl sz41 rfl H 2 rfl rfl rfl | exact x_storeW rfl rfl rfl rfl sz41 rfl H 3 rfl rfl rfl | exact x_storeW rfl rfl rfl rfl sz41 rfl H 4 rfl rfl rfl | exact x_storeW rfl rfl rfl rfl sz41 rfl H 5 rfl rfl rfl) ?_
      clear H
      rintro _ h12 ⟨rfl, hz11, H⟩
      dsimp only [setP, List.set] at H
      replace H : Sep h12 (blk lb (ePr (0, (l.length : Int) + 1)) 41 :: blk sb [.pointer (some ⟨mb, 0, none⟩), qv] 99 :: rowP ePt 5 102 qv qb qc q0 :: HP.old h3 :: []) := H
      replace H := H.ins 3
      dsimp only [insP] at H
      refine ol_y rfl rfl (y_assign rfl rfl) ?_
      refine ol_y rfl rfl (y_assign rfl rfl) ?_
      refine ol_y rfl rfl (y_assign rfl rfl) ?_
      refine ol_nil ?_
      refine thenX_n ?_
      refine cd_seq ?_
      refine cd_seq ?_
      refine cd_region ?_
      refine ol_y rfl rfl (y_move rfl rfl) ?_
      refine ol_y rfl rfl (y_lenV rfl Try.underlying22 rfl (by first | assumption | exact SlV.mk' _ _ _ _)) ?_
      refine ol_y rfl rfl (y_muli rfl rfl rfl (in64 (by omega) (by omega))) ?_
      refine ol_y rfl rfl (y_move rfl rfl) ?_
      refine ol_y rfl rfl (y_lenV rfl Try.underlying22 rfl (by first | assumption | exact SlV.mk' _ _ _ _)) ?_
      refine ol_y rfl rfl (y_addi rfl rfl rfl (in64 (by omega) (by omega))) ?_
      refine ol_y rfl rfl (y_addi rfl rfl rfl (in64 (by omega) (by omega))) ?_
      refine ol_y rfl rfl (y_move rfl rfl) ?_
      refine ol_nil ?_
      refine thenX_n ?_
      refine cd_block ?_
      refine cd_loop (γ := AG) (fun g => [(3, .pointer (some ⟨h1b, 0, none⟩)), (5, .pointer (some ⟨mb, 0, none⟩)), (7, pv), (8, .pointer (some ⟨sb, 0, none⟩)), (9, .pointer (some ⟨lb, 0, none⟩)), (10, .int .i64 (g.all_ : Int)), (11, .int .i64 (g.idle : Int)), (12, .int .i64 (g.n : Int)), (55, .int .i64 (8 * (A.length : Int) + A.length + 1)), (56, .int .i64 (g.i : Int))]) (fun g h' => AllI l A (rankedL A) g ∧ Sep h' (blk sb [.pointer (some ⟨mb, 0, none⟩), g.qv] 99 :: rowP ePt 5 102 g.qv g.qb g.qc g.q :: HP.old h3 :: blk lb (ePr g.last) 41 :: [])) (fun g => 9 * A.length + 1 - g.i) (⟨0, 0, 0, 0, q0, qv, qb, qc, (0, (l.length : Int) + 1)⟩) ?_ ?_ ?_
      · (repeat (first | exact trivial | refine ⟨rfl, ?_⟩))
      · exact ⟨AllI.start hq0 hRk hre0 hsum.1 hsum.2 hAl, H⟩
      · skip
        rintro ⟨i, al_, idle, n, q, qv, qb, qc, last⟩ ρ h13 ⟨hI, H⟩
        (try dsimp only)
        have hbd := hI.bound hRl
        dsimp only at hbd
        have hI1 := hI.idle
        dsimp only at hI1 H
        refine cd_seq ?_
        refine cd_region ?_
        refine ol_y rfl rfl (y_lss rfl rfl rfl) ?_
        refine ol_nil ?_
        refine thenX_n ?_
        refine cd_seq ?_
        refine cd_cond _ rfl (fun hc2 => ?_) (fun hc2 => ?_)
        · (try replace hc2 := of_decide_eq_true hc2)
          refine cd_skip ?_
          refine thenX_n ?_
          refine cd_seq ?_
          refine cd_block ?_
          refine cd_seq ?_
          refine cd_region ?_
          refine ol_y rfl rfl (y_move rfl rfl) ?_
          refine ol_x rfl rfl (x_call rfl go23 rfl (c_Step H (.inr ⟨mb, rfl, hm⟩) hI.ok)) ?_
          clear H
          rintro _ h15 ⟨x, f, m, q2, qv2, qb2, qc2, rfl, hS, H⟩
          refine ol_y rfl rfl (y_move rfl rfl) ?_
          refine ol_y rfl rfl (y_extract rfl rfl rfl) ?_
          refine ol_y rfl rfl (y_extract rfl rfl rfl) ?_
          refine ol_y rfl rfl (y_extract rfl rfl rfl) ?_
          refine ol_x rfl rfl (x_alloc rfl zero41 H) ?_
          clear H
          rintro v13 h16 ⟨hv13, hz116, H⟩
          obtain ⟨nb, hnb⟩ : ∃ b, h15.size = b := ⟨_, rfl⟩
          rw [hnb] at hv13 H
          subst hv13
          refine ol_x rfl rfl (by first | exact x_storeW rfl rfl rfl rfl sz41 rfl H 0 rfl rfl rfl | exact x_storeW rfl rfl rfl rfl sz41 rfl H 1 rfl rfl rfl | exact x_storeW rfl rfl rfl rfl sz41 rfl H 2 rfl rfl rfl | exact x_storeW rfl rfl rfl rfl sz41 rfl H 3 rfl rfl rfl | exact x_storeW rfl rfl rfl rfl sz41 rfl H 4 rfl rfl rfl | exact x_storeW rfl rfl rfl rfl sz41 rfl H 5 rfl rfl rfl) ?_
          clear H
          rintro _ h18 ⟨rfl, hz17, H⟩
          dsimp only [setP, List.set] at H
          have hnb1 := H.obj 0 rfl
          have hlb1 := H.obj 4 rfl
          refine ol_y rfl rfl (y_assign rfl rfl) ?_
          refine ol_y rfl rfl (y_assign rfl rfl) ?_
          refine ol_nil ?_
          refine thenX_n ?_
          refine cd_seq ?_
          refine cd_seq ?_
          refine cd_region ?_
          refine ol_y rfl rfl (y_move rfl rfl) ?_
          refine ol_y rfl rfl (y_not rfl rfl) ?_
          refine ol_nil ?_
          refine thenX_n ?_
          refine cd_cond _ rfl (fun hc3 => ?_) (fun hc3 => ?_)
          · (try replace hc3 := of_decide_eq_true hc3)
            have hm0 : m = false := by simpa using hc3
            obtain ⟨hq2, hal, hnn⟩ := hI.stop hS hm0
            dsimp only at hal hnn
            refine cd_exit ?_
            refine thenX_e ?_
            refine blockX_miss rfl ?_
            refine thenX_e ?_
            refine thenX_e ?_
            refine blockX_hit ?_
            refine thenX_n ?_
            refine cd_seq ?_
            refine cd_region ?_
            replace H := H.drop
            refine ol_y rfl rfl (y_move rfl rfl) ?_
            refine ol_x rfl rfl (x_call rfl go24 rfl (c_Next H (.inr ⟨mb, rfl, hm⟩) hS.ok)) ?_
            clear H
            rintro _ h20 ⟨x3, f3, q3, qv3, qb3, qc3, rfl, hN, H⟩
            obtain rfl := next_none hq2 hN
            refine ol_y rfl rfl (y_move rfl rfl) ?_
            refine ol_y rfl rfl (y_extract rfl rfl rfl) ?_
            refine ol_y rfl rfl (y_extract rfl rfl rfl) ?_
            refine ol_x rfl rfl (x_alloc rfl zero41 H) ?_
            clear H
            rintro _ h22 ⟨rfl, hz21, H⟩
            refine ol_x rfl rfl (by first | exact x_storeW rfl rfl rfl rfl sz41 rfl H 0 rfl rfl rfl | exact x_storeW rfl rfl rfl rfl sz41 rfl H 1 rfl rfl rfl | exact x_storeW rfl rfl rfl rfl sz41 rfl H 2 rfl rfl rfl | exact x_storeW rfl rfl rfl rfl sz41 rfl H 3 rfl rfl rfl | exact x_storeW rfl rfl rfl rfl sz41 rfl H 4 rfl rfl rfl | exact x_storeW rfl rfl rfl rfl sz41 rfl H 5 rfl rfl rfl) ?_
            clear H
            rintro _ h24 ⟨rfl, hz23, H⟩
            dsimp only [setP, List.set] at H
            refine ol_y rfl rfl (y_assign rfl rfl) ?_
            refine ol_nil ?_
            refine thenX_n ?_
            refine cd_seq ?_
            refine cd_region ?_
            refine ol_y rfl rfl (y_move rfl rfl) ?_
            refine ol_y rfl rfl (y_move rfl rfl) ?_
            refine ol_y rfl rfl (y_lenV rfl Try.underlying22 rfl (by first | assumption | exact SlV.mk' _ _ _ _)) ?_
            refine ol_y rfl rfl (y_eql rfl rfl rfl) ?_
            refine ol_y rfl rfl (y_move rfl rfl) ?_
            have hbx1 := (H.ext 3 rfl).get hbx
            refine ol_split (t := 118) rfl (fun hg25 => ?_) (fun hg25 => ?_)
            · (try have hg25_ := of_decide_eq_true hg25)
              refine ol_gy rfl rfl rfl rfl hg25 rfl (y_move rfl rfl) ?_
              refine ol_gy rfl rfl rfl rfl hg25 rfl (y_not rfl rfl) ?_
              refine ol_y rfl rfl (y_pick_t rfl rfl hg25 rfl) ?_
              refine ol_y rfl rfl (y_move rfl rfl) ?_
              refine ol_split (t := 122) rfl (fun hg26 => ?_) (fun hg26 => ?_)
              · (try have hg26_ := of_decide_eq_true hg26)
                refine ol_gy rfl rfl rfl rfl hg26 rfl (y_move rfl rfl) ?_
                refine ol_gy rfl rfl rfl rfl hg26 rfl (y_move rfl rfl) ?_
                refine ol_gy rfl rfl rfl rfl hg26 rfl (y_indexAddrA rfl Try.underlying23 sz3 rfl rfl (by omega) (by omega)) ?_
                refine ol_gy rfl rfl rfl rfl hg26 rfl (y_load rfl rfl (fun _ e => ldeq e (ld1 scl3 (cellH_blk (by assumption) rfl)))) ?_
                refine ol_gy rfl rfl rfl rfl hg26 rfl (y_indexAddrA rfl Try.underlying23 sz3 rfl rfl (by omega) (by omega)) ?_
                refine ol_gy rfl rfl rfl rfl hg26 rfl (y_load rfl rfl (fun _ e => ldeq e (ld1 scl3 (cellH_blk (by assumption) rfl)))) ?_
                replace H := H.front 3
                dsimp only [nthP, eraseP] at H
                refine ol_gx rfl rfl rfl rfl hg26 rfl (x_call rfl go25 rfl (c_DistinctF H hm)) ?_
                clear H
                rintro dv h28 ⟨db, dc, D, hD, H⟩
                have hDl := hDD D hD
                rw [hA] at hDl
                have hdv := H.rowV ePr_ok 0 rfl
                refine ol_gy rfl rfl rfl rfl hg26 rfl (y_lenV rfl Try.underlying30 rfl (by first | assumption | exact SlV.mk' _ _ _ _)) ?_
                refine ol_gy rfl rfl rfl rfl hg26 rfl (y_eql rfl rfl rfl) ?_
                refine ol_y rfl rfl (y_pick_t rfl rfl hg26 rfl) ?_
                refine ol_y rfl rfl (y_assign rfl rfl) ?_
                refine ol_nil ?_
                refine thenX_n ?_
                refine cd_ret ?_
                refine ret1 Try.results5 rfl ?_
                exact ⟨vbool (decide_eq_true (by omega)), hE0.trans (H.ext 1 rfl)⟩
              · (try have hg26_ := of_decide_eq_false hg26)
                cases hg26
            · (try have hg25_ := of_decide_eq_false hg25)
              exfalso; omega
          · (try replace hc3 := of_decide_eq_false hc3)
            have hm1 : m = true := by simpa using hc3
            refine cd_skip ?_
            refine thenX_n ?_
            refine cd_seq ?_
            refine cd_seq ?_
            refine cd_region ?_
            refine ol_y rfl rfl (y_move rfl rfl) ?_
            refine ol_y rfl rfl (y_not rfl rfl) ?_
            refine ol_nil ?_
            refine thenX_n ?_
            refine cd_cond _ rfl (fun hc4 => ?_) (fun hc4 => ?_)
            · (try replace hc4 := of_decide_eq_true hc4)
              have hf0 : f = false := by simpa using hc4
              subst hf0
              have hidle := hI.idle_ (qv := qv2) (qb := qb2) (qc := qc2) hS hm1
              refine cd_seq ?_
              refine cd_region ?_
              refine ol_y rfl rfl (y_move rfl rfl) ?_
              refine ol_y rfl rfl (y_addi rfl rfl rfl (in64 (by omega) (by omega))) ?_
              refine ol_y rfl rfl (y_assign rfl rfl) ?_
              refine ol_nil ?_
              refine thenX_n ?_
              refine cd_exit ?_
              refine thenX_e ?_
              refine blockX_hit ?_
              refine thenX_n ?_
              refine cd_region ?_
              refine ol_y rfl rfl (y_addi rfl rfl rfl (in64 (by omega) (by omega))) ?_
              refine ol_y rfl rfl (y_move rfl rfl) ?_
              refine ol_nil ?_
              refine thenX_n ?_
              first
                | exact ⟨⟨i + 1, al_, idle + 1, n, q2, qv2, qb2, qc2, last⟩, ⟨rfl, rfl, rfl, rfl, rfl, rfl, vint (by simp), rfl, rfl, vint (by simp), trivial⟩, ⟨hidle, H.drop⟩, by (try dsimp only); omega⟩
                | exact ⟨⟨i + 1, al_ + x.2.toNat, 0, n + 1, q2, qv2, qb2, qc2, x⟩, ⟨rfl, rfl, rfl, rfl, rfl, vint (by (try dsimp only); omega), rfl, vint (by simp), rfl, vint (by simp), trivial⟩, ⟨hfound, H.drop⟩, by (try dsimp only); omega⟩
            · (try replace hc4 := of_decide_eq_false hc4)
              have hf1 : f = true := by simpa using hc4
              subst hf1
              obtain ⟨hbet, hx1, hx2, hfound⟩ := hI.found (qv := qv2) (qb := qb2) (qc := qc2) hS
              have hbet1 := hbet
              unfold better at hbet
              dsimp only at hbet
              refine cd_skip ?_
              refine thenX_n ?_
              refine cd_seq ?_
              refine cd_seq ?_
              refine cd_region ?_
              refine ol_y rfl rfl (y_move rfl rfl) ?_
              refine ol_y rfl rfl (y_move rfl rfl) ?_
              refine ol_y rfl rfl (y_lenV rfl Try.underlying22 rfl (by first | assumption | exact SlV.mk' _ _ _ _)) ?_
              refine ol_y rfl rfl (y_muli rfl rfl rfl (in64 (by omega) (by omega))) ?_
              refine ol_y rfl rfl (y_gtr rfl rfl rfl) ?_
              refine ol_y rfl rfl (y_move rfl rfl) ?_
              refine ol_split (t := 75) rfl (fun hg29 => ?_) (fun hg29 => ?_)
              · (try have hg29_ := of_decide_eq_true hg29)
                exfalso; omega
              · (try have hg29_ := of_decide_eq_false hg29)
                refine ol_gy rfl rfl rfl rfl hg29 rfl (y_fieldAddr rfl fo41_1 rfl) ?_
                refine ol_gy rfl rfl rfl rfl hg29 rfl (y_load rfl rfl (fun _ e => ldeq e (ld1 scl3 (cellH_blk (by assumption) rfl)))) ?_
                refine ol_gy rfl rfl rfl rfl hg29 rfl (y_fieldAddr rfl fo41_1 rfl) ?_
                refine ol_gy rfl rfl rfl rfl hg29 rfl (y_load rfl rfl (fun _ e => ldeq e (ld1 scl3 (cellH_blk (by assumption) rfl)))) ?_
                refine ol_gy rfl rfl rfl rfl hg29 rfl (y_gtr rfl rfl rfl) ?_
                refine ol_y rfl rfl (y_pick_f rfl rfl hg29 rfl) ?_
                refine ol_y rfl rfl (y_move rfl rfl) ?_
                refine ol_split (t := 82) rfl (fun hg30 => ?_) (fun hg30 => ?_)
                · (try have hg30_ := of_decide_eq_true hg30)
                  exfalso; omega
                · (try have hg30_ := of_decide_eq_false hg30)
                  refine ol_gy rfl rfl rfl rfl hg30 rfl (y_fieldAddr rfl fo41_1 rfl) ?_
                  refine ol_gy rfl rfl rfl rfl hg30 rfl (y_load rfl rfl (fun _ e => ldeq e (ld1 scl3 (cellH_blk (by assumption) rfl)))) ?_
                  refine ol_gy rfl rfl rfl rfl hg30 rfl (y_fieldAddr rfl fo41_1 rfl) ?_
                  refine ol_gy rfl rfl rfl rfl hg30 rfl (y_load rfl rfl (fun _ e => ldeq e (ld1 scl3 (cellH_blk (by assumption) rfl)))) ?_
                  refine ol_gy rfl rfl rfl rfl hg30 rfl (y_eql rfl rfl rfl) ?_
                  refine ol_gy rfl rfl rfl rfl hg30 rfl (y_move rfl rfl) ?_
                  refine ol_split (t := 88) rfl (fun hg31 => ?_) (fun hg31 => ?_)
                  · (try have hg31_ := of_decide_eq_true hg31)
                    refine ol_gy rfl rfl rfl rfl hg31 rfl (y_fieldAddr rfl fo41_0 rfl) ?_
                    refine ol_gy rfl rfl rfl rfl hg31 rfl (y_load rfl rfl (fun _ e => ldeq e (ld1 scl3 (cellH_blk (by assumption) rfl)))) ?_
                    refine ol_gy rfl rfl rfl rfl hg31 rfl (y_fieldAddr rfl fo41_0 rfl) ?_
                    refine ol_gy rfl rfl rfl rfl hg31 rfl (y_load rfl rfl (fun _ e => ldeq e (ld1 scl3 (cellH_blk (by assumption) rfl)))) ?_
                    refine ol_gy rfl rfl rfl rfl hg31 rfl (y_leq rfl rfl rfl) ?_
                    refine ol_gy rfl rfl rfl rfl hg30 rfl (y_pick_t rfl rfl hg31 rfl) ?_
                    refine ol_y rfl rfl (y_pick_f rfl rfl hg30 rfl) ?_
                    refine ol_y rfl rfl (y_move rfl rfl) ?_
                    refine ol_split (t := 96) rfl (fun hg32 => ?_) (fun hg32 => ?_)
                    · (try have hg32_ := of_decide_eq_true hg32)
                      exfalso; omega
                    · (try have hg32_ := of_decide_eq_false hg32)
                      refine ol_gy rfl rfl rfl rfl hg32 rfl (y_fieldAddr rfl fo41_1 rfl) ?_
                      refine ol_gy rfl rfl rfl rfl hg32 rfl (y_load rfl rfl (fun _ e => ldeq e (ld1 scl3 (cellH_blk (by assumption) rfl)))) ?_
                      refine ol_gy rfl rfl rfl rfl hg32 rfl (y_lss rfl rfl rfl) ?_
                      refine ol_y rfl rfl (y_pick_f rfl rfl hg32 rfl) ?_
                      refine ol_nil ?_
                      refine thenX_n ?_
                      refine cd_cond _ rfl (fun hc5 => ?_) (fun hc5 => ?_)
                      · (try replace hc5 := of_decide_eq_true hc5)
                        exfalso; omega
                      · (try replace hc5 := of_decide_eq_false hc5)
                        refine cd_skip ?_
                        refine thenX_n ?_
                        refine cd_seq ?_
                        refine cd_region ?_
                        refine ol_y rfl rfl (y_move rfl rfl) ?_
                        refine ol_y rfl rfl (y_fieldAddr rfl fo41_1 rfl) ?_
                        refine ol_y rfl rfl (y_load rfl rfl (fun _ e => ldeq e (ld1 scl3 (cellH_blk (by assumption) rfl)))) ?_
                        refine ol_y rfl rfl (y_addi rfl rfl rfl (in64 (by omega) (by omega))) ?_
                        refine ol_y rfl rfl (y_assign rfl rfl) ?_
                        refine ol_nil ?_
                        refine thenX_n ?_
                        refine cd_seq ?_
                        refine cd_region ?_
                        refine ol_y rfl rfl (y_load rfl rfl (fun _ e => ldeq e (ldBlk agg41 (by assumption) rfl))) ?_
                        refine ol_x rfl rfl (x_storeW rfl rfl rfl rfl sz41 rfl H 4 rfl rfl rfl) ?_
                        clear H
                        rintro _ h33 ⟨rfl, hz181, H⟩
                        dsimp only [setP, List.set] at H
                        refine ol_y rfl rfl (y_assign rfl rfl) ?_
                        refine ol_nil ?_
                        refine thenX_n ?_
                        refine cd_region ?_
                        refine ol_y rfl rfl (y_move rfl rfl) ?_
                        refine ol_y rfl rfl (y_addi rfl rfl rfl (in64 (by omega) (by omega))) ?_
                        refine ol_y rfl rfl (y_assign rfl rfl) ?_
                        refine ol_nil ?_
                        refine blockX_n ?_
                        refine thenX_n ?_
                        refine cd_region ?_
                        refine ol_y rfl rfl (y_addi rfl rfl rfl (in64 (by omega) (by omega))) ?_
                        refine ol_y rfl rfl (y_move rfl rfl) ?_
                        refine ol_nil ?_
                        refine thenX_n ?_
                        first
                          | exact ⟨⟨i + 1, al_, idle + 1, n, q2, qv2, qb2, qc2, last⟩, ⟨rfl, rfl, rfl, rfl, rfl, rfl, vint (by simp), rfl, rfl, vint (by simp), trivial⟩, ⟨hidle, H.drop⟩, by (try dsimp only); omega⟩
                          | exact ⟨⟨i + 1, al_ + x.2.toNat, 0, n + 1, q2, qv2, qb2, qc2, x⟩, ⟨rfl, rfl, rfl, rfl, rfl, vint (by (try dsimp only); omega), rfl, vint (by simp), rfl, vint (by simp), trivial⟩, ⟨hfound, H.drop⟩, by (try dsimp only); omega⟩
                  · (try have hg31_ := of_decide_eq_false hg31)
                    refine ol_gn rfl rfl rfl rfl hg31 rfl ?_
                    refine ol_gn rfl rfl rfl rfl hg31 rfl ?_
                    refine ol_gn rfl rfl rfl rfl hg31 rfl ?_
                    refine ol_gn rfl rfl rfl rfl hg31 rfl ?_
                    refine ol_gn rfl rfl rfl rfl hg31 rfl ?_
                    refine ol_gy rfl rfl rfl rfl hg30 rfl (y_pick_f rfl rfl hg31 rfl) ?_
                    refine ol_y rfl rfl (y_pick_f rfl rfl hg30 rfl) ?_
                    refine ol_y rfl rfl (y_move rfl rfl) ?_
                    refine ol_gy rfl rfl rfl rfl rfl rfl (y_fieldAddr rfl fo41_1 rfl) ?_
                    refine ol_gy rfl rfl rfl rfl rfl rfl (y_load rfl rfl (fun _ e => ldeq e (ld1 scl3 (cellH_blk (by assumption) rfl)))) ?_
                    refine ol_gy rfl rfl rfl rfl rfl rfl (y_lss rfl rfl rfl) ?_
                    refine ol_y rfl rfl (y_pick_f rfl rfl rfl rfl) ?_
                    refine ol_nil ?_
                    refine thenX_n ?_
                    refine cd_cond _ rfl (fun hc5 => ?_) (fun hc5 => ?_)
                    · (try replace hc5 := of_decide_eq_true hc5)
                      exfalso; omega
                    · (try replace hc5 := of_decide_eq_false hc5)
                      refine cd_skip ?_
                      refine thenX_n ?_
                      refine cd_seq ?_
                      refine cd_region ?_
                      refine ol_y rfl rfl (y_move rfl rfl) ?_
                      refine ol_y rfl rfl (y_fieldAddr rfl fo41_1 rfl) ?_
                      refine ol_y rfl rfl (y_load rfl rfl (fun _ e => ldeq e (ld1 scl3 (cellH_blk (by assumption) rfl)))) ?_
                      refine ol_y rfl rfl (y_addi rfl rfl rfl (in64 (by omega) (by omega))) ?_
                      refine ol_y rfl rfl (y_assign rfl rfl) ?_
                      refine ol_nil ?_
                      refine thenX_n ?_
                      refine cd_seq ?_
                      refine cd_region ?_
                      refine ol_y rfl rfl (y_load rfl rfl (fun _ e => ldeq e (ldBlk agg41 (by assumption) rfl))) ?_
                      refine ol_x rfl rfl (x_storeW rfl rfl rfl rfl sz41 rfl H 4 rfl rfl rfl) ?_
                      clear H
                      rintro _ h34 ⟨rfl, hz181, H⟩
                      dsimp only [setP, List.set] at H
                      refine ol_y rfl rfl (y_assign rfl rfl) ?_
                      refine ol_nil ?_
                      refine thenX_n ?_
                      refine cd_region ?_
                      refine ol_y rfl rfl (y_move rfl rfl) ?_
                      refine ol_y rfl rfl (y_addi rfl rfl rfl (in64 (by omega) (by omega))) ?_
                      refine ol_y rfl rfl (y_assign rfl rfl) ?_
                      refine ol_nil ?_
                      refine blockX_n ?_
                      refine thenX_n ?_
                      refine cd_region ?_
                      refine ol_y rfl rfl (y_addi rfl rfl rfl (in64 (by omega) (by omega))) ?_
                      refine ol_y rfl rfl (y_move rfl rfl) ?_
                      refine ol_nil ?_
                      refine thenX_n ?_
                      first
                        | exact ⟨⟨i + 1, al_, idle + 1, n, q2, qv2, qb2, qc2, last⟩, ⟨rfl, rfl, rfl, rfl, rfl, rfl, vint (by simp), rfl, rfl, vint (by simp), trivial⟩, ⟨hidle, H.drop⟩, by (try dsimp only); omega⟩
                        | exact ⟨⟨i + 1, al_ + x.2.toNat, 0, n + 1, q2, qv2, qb2, qc2, x⟩, ⟨rfl, rfl, rfl, rfl, rfl, vint (by (try dsimp only); omega), rfl, vint (by simp), rfl, vint (by simp), trivial⟩, ⟨hfound, H.drop⟩, by (try dsimp only); omega⟩
        · (try replace hc2 := of_decide_eq_false hc2)
          exfalso; omega


end Go.X
