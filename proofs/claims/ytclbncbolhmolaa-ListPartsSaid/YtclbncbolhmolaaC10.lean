/- best.Step: printed walk. -/
import Derived.Test.YtclbncbolhmolaaC9
namespace Go.X
open Go Go.Proofs
set_option linter.unusedVariables false
set_option linter.unusedSimpArgs false
attribute [local irreducible] rowP HP.obj HP.old lessP
def ePr (x : Pr) : List Value := [.int .i64 x.1, .int .i64 x.2]
theorem ePr_ok : EncOk ePr 2 := ⟨fun _ => rfl, fun p v hv => by simp only [ePr, List.mem_cons, List.not_mem_nil, or_false] at hv; rcases hv with rfl | rfl <;> rfl⟩
/-- what a step of a search comes to -/
structure StepP (W : Nat) (l A : List Int) (q : List Prt) (x : Pr) (f m : Bool) (q' : List Prt) : Prop where
  ok : QOk W l A q'
  cs : (q = [] ∧ f = false ∧ m = false ∧ q' = [] ∧ x = (0, 0)) ∨
    (q ≠ [] ∧ m = true ∧ f = true ∧ (∀ R, Rem W A q R → ∃ R', R = x :: R' ∧ Rem W A q' R') ∧ 1 ≤ x.2 ∧ sumL ps0 q' + x.2.toNat = sumL ps0 q ∧ sumL (ps1 W) q' = sumL (ps1 W) q) ∨
    (q ≠ [] ∧ m = true ∧ f = false ∧ x = (0, 0) ∧ (∀ R, Rem W A q R → Rem W A q' R) ∧ sumL ps0 q' = sumL ps0 q ∧ sumL (ps1 W) q' < sumL (ps1 W) q)
theorem c_hPop' {h : Heap} {sb qb qc : Nat} {mv qv : Value} {q : List Prt} {p : Prt} {L : List HP} (hp : gt q ((0 : Nat) : Int) = p) (H : Sep h (blk sb [mv, qv] 99 :: rowP ePt 5 102 qv qb qc q :: L)) (hql : q.length ≤ 4194304) (hpb : ∀ x ∈ q, PB x) (h0 : 0 < q.length) :
    FnT Try.prog 56 [.iface 104 (.pointer (some ⟨sb, 1, none⟩))] h (fun v h' => v = .iface 102 (.agg (ePt p).toArray) ∧ ∃ qv', Sep h' (blk sb [mv, qv'] 99 :: rowP ePt 5 102 qv' qb qc (popL q) :: L)) := by
  subst hp; exact c_hPop H (Nat.le_trans hql (by decide)) hpb h0
theorem half_pow {W : Nat} {lv : Int} (h0 : 0 ≤ lv) (h1 : lv < W) (hW : W ≤ 22) : IntKind.i64.wrap (1 * 2 ^ min ((W : Int) - lv - 1).toNat IntKind.i64.bits) = 2 ^ (W - lv.toNat - 1) := by
  have e : min ((W : Int) - lv - 1).toNat IntKind.i64.bits = W - lv.toNat - 1 := by simp only [IntKind.bits]; omega
  have hp : 2 ^ (W - lv.toNat - 1) ≤ 2 ^ 22 := Nat.pow_le_pow_right (by decide) (by omega)
  have h0 := Nat.two_pow_pos (W - lv.toNat - 1)
  have e2 : (1 : Int) * 2 ^ (W - lv.toNat - 1) = ((2 ^ (W - lv.toNat - 1) : Nat) : Int) := by simp
  rw [e, e2, wrap_i64 (by omega) (by omega)]; simp
theorem PartOk.pb {W : Nat} {l A : List Int} {p : Prt} (h : PartOk W l A p) (hl : l.length ≤ 4194304) : PB p := ⟨h.a0, h.ab, by have := h.bn; omega⟩
theorem putQ_len (q : List Prt) (p : Prt) : (putQ q p).length ≤ q.length + 1 := by unfold putQ; split <;> simp [pushL_len]
theorem putQ_pb {q : List Prt} {p : Prt} (hq : ∀ x ∈ q, PB x) (hp : PB p) : ∀ x ∈ putQ q p, PB x := fun x hx => by
  unfold putQ at hx; split at hx
  · rcases List.mem_cons.1 ((pushL_perm _ _).mem_iff.1 hx) with e | e
    · exact e ▸ hp
    · exact hq x e
  · exact hq x hx
theorem pop_small {q : List Prt} (h0 : 0 < q.length) (h : q.length ≤ 4194304) : (popL q).length < 8388608 ∧ ∀ k, (putQ (popL q) k).length < 8388608 := by
  have := popL_len h0
  exact ⟨by omega, fun k => by have := putQ_len (popL q) k; omega⟩
theorem pow22 {n : Nat} (h : n ≤ 22) : 1 ≤ (2 : Int) ^ n ∧ (2 : Int) ^ n ≤ 4194304 := by
  have hp : 2 ^ n ≤ 2 ^ 22 := Nat.pow_le_pow_right (by decide) h
  have h0 := Nat.two_pow_pos n
  have e2 : (2 : Int) ^ n = ((2 ^ n : Nat) : Int) := by simp
  rw [e2]; omega

theorem c_Step {h h0 : Heap} {sb qb qc W : Nat} {po : Option Addr} {qv : Value} {q : List Prt} {l A : List Int} {vbs : List Nat} {L : List HP} (H : Sep h (blk sb [.pointer po, qv] 99 :: rowP ePt 5 102 qv qb qc q :: HP.old h0 :: L)) (hm : MatV h0 po l W vbs) (hQ : QOk W l A q) :
    FnT Try.prog 23 [.pointer (some ⟨sb, 0, none⟩)] h (fun v h' => ∃ x f m q' qv' qb' qc', v = .tuple #[.agg (ePr x).toArray, .bool f, .bool m] ∧ StepP W l A q x f m q' ∧ Sep h' (blk sb [.pointer po, qv'] 99 :: rowP ePt 5 102 qv' qb' qc' q' :: HP.old h0 :: L)) := by
  have hn := hm.n
  have hql := hQ.len
  have hpb := hQ.pb hn
  refine fn_enter Try.func23 rfl Try.ntmps23 rfl ?_
  refine cd_seq ?_
  refine cd_region ?_
  refine ol_x rfl rfl (x_alloc rfl zero41 H) ?_
  clear H
  rintro _ h2 ⟨rfl, hz1, H⟩
  replace H : Sep h2 (blk h.size [.int .i64 0, .int .i64 0] 41 :: blk sb [.pointer po, qv] 99 :: rowP ePt 5 102 qv qb qc q :: HP.old h0 :: L) := H
  replace H := H.front 2
  dsimp only [nthP, eraseP] at H
  replace H := H.front 2
  dsimp only [nthP, eraseP] at H
  have hb := H.obj 0 rfl
  have hv := H.rowV ePt_ok 1 rfl
  refine ol_y rfl rfl (y_assign rfl rfl) ?_
  refine ol_y rfl rfl (y_assign rfl rfl) ?_
  refine ol_nil ?_
  refine thenX_n ?_
  refine cd_seq ?_
  refine cd_seq ?_
  refine cd_region ?_
  refine ol_y rfl rfl (y_move rfl rfl) ?_
  refine ol_y rfl rfl (y_nilCheck rfl rfl) ?_
  refine ol_y rfl rfl (y_fieldAddr rfl fo99_1 rfl) ?_
  refine ol_y rfl rfl (y_load rfl rfl (fun _ e => ldeq e (ld1 scl97 (cellH_blk (by assumption) rfl)))) ?_
  refine ol_y rfl rfl (y_lenV rfl Try.underlying97 rfl (by first | assumption | exact SlV.mk' _ _ _ _)) ?_
  refine ol_y rfl rfl (y_eql rfl rfl rfl) ?_
  refine ol_nil ?_
  refine thenX_n ?_
  refine cd_cond _ rfl (fun hc0 => ?_) (fun hc0 => ?_)
  · (try replace hc0 := of_decide_eq_true hc0)
    obtain rfl : q = [] := List.eq_nil_of_length_eq_zero (by omega)
    refine cd_seq ?_
    refine cd_region ?_
    refine ol_y rfl rfl (y_build (cs := [_, _]) rfl pl41 zero41 rfl) ?_
    refine ol_x rfl rfl (by first | exact x_storeW rfl rfl rfl rfl sz41 rfl H 0 rfl rfl rfl | exact x_storeW rfl rfl rfl rfl sz41 rfl H 1 rfl rfl rfl | exact x_storeW rfl rfl rfl rfl sz41 rfl H 2 rfl rfl rfl | exact x_storeW rfl rfl rfl rfl sz41 rfl H 3 rfl rfl rfl | exact x_storeW rfl rfl rfl rfl sz41 rfl H 4 rfl rfl rfl | exact x_storeW rfl rfl rfl rfl sz41 rfl H 5 rfl rfl rfl) ?_
    clear H
    rintro _ h4 ⟨rfl, hz3, H⟩
    dsimp only [setP, List.set] at H
    have hcb := H.obj 2 rfl
    refine ol_y rfl rfl (y_assign rfl rfl) ?_
    refine ol_y rfl rfl (y_assign rfl rfl) ?_
    refine ol_nil ?_
    refine thenX_n ?_
    refine cd_ret ?_
    refine thenX_r ?_
    refine ret3c Try.results23 rfl (ldBlk agg41 (by assumption) rfl) rfl rfl ?_
    refine ⟨(0, 0), false, false, [], qv, qb, qc, rfl, ⟨hQ, .inl ⟨rfl, rfl, rfl, rfl, rfl⟩⟩, ?_⟩
    have H1 := (H.front 2).drop
    dsimp only [nthP, eraseP] at H1
    exact H1
  · (try replace hc0 := of_decide_eq_false hc0)
    have h0q : 0 < q.length := by omega
    obtain ⟨hQp, ⟨hpk, hplt⟩, _, _⟩ := hQ.pop h0q
    have hsml := pop_small h0q (Nat.le_trans hql hn)
    have hleaf := step_leaf hQ h0q
    have hnode := step_node hQ h0q
    have hne : q ≠ [] := fun e => by rw [e] at h0q; simp at h0q
    have hleafS : (gt q ((0 : Nat) : Int)).lv = W → StepP W l A q ((gt q ((0 : Nat) : Int)).c, (gt q ((0 : Nat) : Int)).b - (gt q ((0 : Nat) : Int)).a) true true (popL q) := fun e => by
      obtain ⟨s1, s2, s3, s4⟩ := hleaf e
      exact ⟨s1, .inr (.inl ⟨hne, rfl, rfl, s2, by (try dsimp only); omega, s3, s4⟩)⟩
    have hnodeS : (gt q ((0 : Nat) : Int)).lv < W → StepP W l A q (0, 0) false true (nodeL W l q) := fun e => by
      obtain ⟨s1, s2, s3, s4⟩ := hnode e
      exact ⟨s1, .inr (.inr ⟨hne, rfl, rfl, rfl, s2, s3, s4⟩)⟩
    clear hleaf hnode
    have hnl : nodeL W l q = putQ (putQ (popL q) (kid0 l.length (rowBits (W - 1 - (gt q ((0 : Nat) : Int)).lv.toNat) (lvRow W l (gt q ((0 : Nat) : Int)).lv.toNat)) (gt q ((0 : Nat) : Int)))) (kid1 W l.length (rowBits (W - 1 - (gt q ((0 : Nat) : Int)).lv.toNat) (lvRow W l (gt q ((0 : Nat) : Int)).lv.toNat)) (gt q ((0 : Nat) : Int))) := rfl
    obtain ⟨p, hgp⟩ : ∃ p, gt q ((0 : Nat) : Int) = p := ⟨_, rfl⟩
    rw [hgp] at hpk hplt hleafS hnodeS hnl
    have hlv0 := hpk.lv0
    have hlv1 := hpk.lv1
    have ha0 := hpk.a0
    have hbn := hpk.bn
    have hc0_ := hpk.c0
    have hc1_ := hpk.c1
    obtain ⟨mb, rfl, hm1⟩ : ∃ mb, po = some ⟨mb, 0, none⟩ ∧ MatF h0 mb l W vbs := by
      rcases hm with ⟨_, rfl⟩ | h
      · simp at hbn; omega
      · exact h
    have hvl := hm1.len
    have hW := hm1.w22
    have hp1 := pow22 (n := p.lv.toNat) (by omega)
    have hp2 := pow22 (n := W - p.lv.toNat) (by omega)
    have hls := hpk.ls
    have hls2 : 0 ≤ p.ls ∧ p.ls ≤ 4194304 * 4194304 := by
      rw [hls]; exact ⟨Int.mul_nonneg hc0_ (by omega), Int.mul_le_mul (by omega) hp2.2 (by omega) (by omega)⟩
    refine cd_skip ?_
    refine thenX_n ?_
    refine cd_seq ?_
    refine cd_region ?_
    refine ol_y rfl rfl (y_move rfl rfl) ?_
    refine ol_y rfl rfl (y_nilCheck rfl rfl) ?_
    refine ol_y rfl rfl (y_fieldAddr rfl fo99_1 rfl) ?_
    refine ol_y rfl rfl (y_makeInterface rfl conc104 rfl) ?_
    refine ol_x rfl rfl (x_call rfl go56 rfl (c_hPop' hgp H (by omega) hpb h0q)) ?_
    clear H
    rintro _ hq3 ⟨rfl, qv, H⟩
    refine ol_y rfl rfl (y_typeAssert rfl conc102 rfl) ?_
    refine ol_x rfl rfl (x_alloc rfl zero102 H) ?_
    clear H
    rintro _ h6 ⟨rfl, hz36, H⟩
    refine ol_x rfl rfl (by first | exact x_storeW rfl rfl rfl rfl sz102 rfl H 0 rfl rfl rfl | exact x_storeW rfl rfl rfl rfl sz102 rfl H 1 rfl rfl rfl | exact x_storeW rfl rfl rfl rfl sz102 rfl H 2 rfl rfl rfl | exact x_storeW rfl rfl rfl rfl sz102 rfl H 3 rfl rfl rfl | exact x_storeW rfl rfl rfl rfl sz102 rfl H 4 rfl rfl rfl | exact x_storeW rfl rfl rfl rfl sz102 rfl H 5 rfl rfl rfl) ?_
    clear H
    rintro _ h8 ⟨rfl, hz7, H⟩
    dsimp only [setP, List.set] at H
    replace H : Sep h8 (blk hq3.size (ePt p) 102 :: blk sb [.pointer (some ⟨mb, 0, none⟩), qv] 99 :: rowP ePt 5 102 qv qb qc (popL q) :: blk h.size [.int .i64 0, .int .i64 0] 41 :: HP.old h0 :: L) := H
    replace H := H.front 2
    dsimp only [nthP, eraseP] at H
    replace H := H.front 2
    dsimp only [nthP, eraseP] at H
    have hb := H.obj 0 rfl
    have hbp := H.obj 2 rfl
    have hmh := hm1.ext (H.ext 4 rfl)
    refine ol_nil ?_
    refine thenX_n ?_
    refine cd_seq ?_
    refine cd_region ?_
    refine ol_y rfl rfl (y_move rfl rfl) ?_
    refine ol_y rfl rfl (y_nilCheck rfl rfl) ?_
    refine ol_y rfl rfl (y_fieldAddr rfl fo99_0 rfl) ?_
    refine ol_y rfl rfl (y_load rfl rfl (fun _ e => ldeq e (ld1 scl26 (cellH_blk (by assumption) rfl)))) ?_
    refine ol_x rfl rfl (x_call rfl go57 rfl (c_Levels H hmh)) ?_
    clear H
    rintro v_ h10 ⟨lb_, lc_, H⟩
    have hlvv := H.rowV eP_ok 0 rfl
    have hlvr := H.rowR eP_ok 0 rfl
    have hbp := H.obj 3 rfl
    refine ol_y rfl rfl (y_assign rfl rfl) ?_
    refine ol_nil ?_
    refine thenX_n ?_
    refine cd_seq ?_
    refine cd_seq ?_
    refine cd_region ?_
    refine ol_y rfl rfl (y_fieldAddr rfl fo102_0 rfl) ?_
    refine ol_y rfl rfl (y_load rfl rfl (fun _ e => ldeq e (ld1 scl3 (cellH_blk (by assumption) rfl)))) ?_
    refine ol_y rfl rfl (y_move rfl rfl) ?_
    refine ol_y rfl rfl (y_lenV rfl Try.underlying86 rfl (by first | assumption | exact SlV.mk' _ _ _ _)) ?_
    refine ol_y rfl rfl (y_eql rfl rfl rfl) ?_
    refine ol_nil ?_
    refine thenX_n ?_
    refine cd_cond _ rfl (fun hc1 => ?_) (fun hc1 => ?_)
    · (try replace hc1 := of_decide_eq_true hc1)
      have hlW : p.lv = W := by omega
      refine cd_seq ?_
      refine cd_region ?_
      refine ol_y rfl rfl (y_fieldAddr rfl fo102_1 rfl) ?_
      refine ol_y rfl rfl (y_load rfl rfl (fun _ e => ldeq e (ld1 scl3 (cellH_blk (by assumption) rfl)))) ?_
      refine ol_y rfl rfl (y_fieldAddr rfl fo102_4 rfl) ?_
      refine ol_y rfl rfl (y_load rfl rfl (fun _ e => ldeq e (ld1 scl3 (cellH_blk (by assumption) rfl)))) ?_
      refine ol_y rfl rfl (y_fieldAddr rfl fo102_3 rfl) ?_
      refine ol_y rfl rfl (y_load rfl rfl (fun _ e => ldeq e (ld1 scl3 (cellH_blk (by assumption) rfl)))) ?_
      refine ol_y rfl rfl (y_subi rfl rfl rfl (in64 (by omega) (by omega))) ?_
      refine ol_y rfl rfl (y_build (cs := [_, _]) rfl pl41 zero41 rfl) ?_
      refine ol_x rfl rfl (by first | exact x_storeW rfl rfl rfl rfl sz41 rfl H 0 rfl rfl rfl | exact x_storeW rfl rfl rfl rfl sz41 rfl H 1 rfl rfl rfl | exact x_storeW rfl rfl rfl rfl sz41 rfl H 2 rfl rfl rfl | exact x_storeW rfl rfl rfl rfl sz41 rfl H 3 rfl rfl rfl | exact x_storeW rfl rfl rfl rfl sz41 rfl H 4 rfl rfl rfl | exact x_storeW rfl rfl rfl rfl sz41 rfl H 5 rfl rfl rfl) ?_
      clear H
      rintro _ h12 ⟨rfl, hz11, H⟩
      dsimp only [setP, List.set] at H
      have hcb := H.obj 4 rfl
      refine ol_y rfl rfl (y_assign rfl rfl) ?_
      refine ol_y rfl rfl (y_assign rfl rfl) ?_
      refine ol_nil ?_
      refine thenX_n ?_
      refine cd_ret ?_
      refine thenX_r ?_
      refine ret3c Try.results23 rfl (ldBlk agg41 (by assumption) rfl) rfl rfl ?_
      have hS := hleafS hlW
      refine ⟨(p.c, p.b - p.a), true, true, popL q, qv, qb, qc, rfl, hS, ?_⟩
      have H1 := (H.drop.front 2).drop
      dsimp only [nthP, eraseP] at H1
      have H2 := (H1.front 2).drop
      dsimp only [nthP, eraseP] at H2
      exact H2
    · (try replace hc1 := of_decide_eq_false hc1)
      have hlW : p.lv < W := by omega
      have hk0 := hpk.kid0 hlW
      have hk1 := hpk.kid1 hlW
      have hvec0 := hm1.lv p.lv.toNat _ (gt_get (xs := vbs) (i := p.lv) hlv0 (by omega))
      have hp3 := pow22 (n := W - p.lv.toNat - 1) (by omega)
      have hvec := hvec0.ext (H.ext 5 rfl)
      obtain ⟨f, hf⟩ : ∃ f, rowBits (W - 1 - p.lv.toNat) (lvRow W l p.lv.toNat) = f := ⟨_, rfl⟩
      rw [hf] at hk0 hk1 hvec hvec0 hnl
      have hcl := cntF_le f l.length
      have m1 := cntF_mono2 f (show p.a.toNat ≤ p.b.toNat by omega)
      have m2 := cntF_mono2 f (show p.b.toNat ≤ l.length by omega)
      have m0 := cntF_le f p.a.toNat
      refine cd_skip ?_
      refine thenX_n ?_
      refine cd_seq ?_
      refine cd_region ?_
      refine ol_y rfl rfl (y_move rfl rfl) ?_
      refine ol_y rfl rfl (y_fieldAddr rfl fo102_0 rfl) ?_
      refine ol_y rfl rfl (y_load rfl rfl (fun _ e => ldeq e (ld1 scl3 (cellH_blk (by assumption) rfl)))) ?_
      refine ol_y rfl rfl (y_indexV rfl Try.underlying86 sz93 rfl (by first | assumption | exact SlV.mk' _ _ _ _) rfl (by omega) (by omega)) ?_
      refine ol_y rfl rfl (y_load rfl rfl (fun _ e => ldeq e (ld_row (f := fun b : Nat => Value.pointer (some ⟨b, 0, none⟩)) (xs := vbs) scl93 hlvr (by omega) (by omega)))) ?_
      refine ol_y rfl rfl (y_assign rfl rfl) ?_
      clear hlvr
      replace H := H.drop
      refine ol_nil ?_
      refine thenX_n ?_
      refine cd_seq ?_
      refine cd_region ?_
      refine ol_y rfl rfl (y_move rfl rfl) ?_
      refine ol_y rfl rfl (y_lenV rfl Try.underlying86 rfl (by first | assumption | exact SlV.mk' _ _ _ _)) ?_
      refine ol_y rfl rfl (y_fieldAddr rfl fo102_0 rfl) ?_
      refine ol_y rfl rfl (y_load rfl rfl (fun _ e => ldeq e (ld1 scl3 (cellH_blk (by assumption) rfl)))) ?_
      refine ol_y rfl rfl (y_subi rfl rfl rfl (in64 (by omega) (by omega))) ?_
      refine ol_y rfl rfl (y_subi rfl rfl rfl (in64 (by omega) (by omega))) ?_
      refine ol_y rfl rfl ((y_shl rfl rfl rfl (by omega)).eq (vint (Eq.trans (by rw [hvl]) (half_pow hlv0 hlW hW)))) ?_
      refine ol_y rfl rfl (y_assign rfl rfl) ?_
      refine ol_nil ?_
      refine thenX_n ?_
      refine cd_seq ?_
      refine cd_region ?_
      refine ol_y rfl rfl (y_move rfl rfl) ?_
      refine ol_x rfl rfl (x_call rfl go58 rfl (c_VecLen hvec)) ?_
      rintro _ _ ⟨rfl, rfl⟩
      refine ol_y rfl rfl (y_move rfl rfl) ?_
      refine ol_x rfl rfl (x_call rfl go59 rfl (c_VecOnes hvec)) ?_
      rintro _ _ ⟨rfl, rfl⟩
      refine ol_y rfl rfl (y_subi rfl rfl rfl (in64 (by omega) (by omega))) ?_
      refine ol_y rfl rfl (y_assign rfl rfl) ?_
      refine ol_nil ?_
      refine thenX_n ?_
      refine cd_seq ?_
      refine cd_forget [(0, .pointer (some ⟨sb, 0, none⟩)), (2, .pointer (some ⟨h.size, 0, none⟩)), (3, .bool false), (4, .bool false), (5, .pointer (some ⟨hq3.size, 0, none⟩)), (7, .pointer (some ⟨gt vbs p.lv, 0, none⟩)), (8, .int .i64 (2 ^ (W - p.lv.toNat - 1))), (9, .int .i64 (l.length - cntF f l.length))] ⟨rfl, rfl, rfl, rfl, rfl, rfl, rfl, rfl, trivial⟩ ?_
      intro ρ
      refine cd_draw (some 18) (fun x => x = h10) [(0, 0), (1, 0), (2, 1), (3, 0), (4, 0), (5, 1), (6, 0), (7, 0), (8, 1), (9, 0), (10, 0), (11, 1), (13, 0), (14, 0), (15, 1), (12, 2), (16, 2), (17, 0), (18, 2)] mixed (by kernel_rfl) (by kernel_rfl) (by kernel_rfl) ?_ ?_
      · exact rfl
      refine hs_p rfl rfl rfl (y_move rfl rfl) ?_
      refine hs_p rfl rfl rfl (y_fieldAddr rfl fo102_0 rfl) ?_
      refine hs_y rfl rfl rfl (y_load rfl rfl (fun _ e => ldeq e (ld1 scl3 (cellH_blk (by assumption) rfl)))) ?_
      refine hs_p rfl rfl rfl (y_addi rfl rfl rfl (in64 (by omega) (by omega))) ?_
      refine hs_p rfl rfl rfl (y_fieldAddr rfl fo102_1 rfl) ?_
      refine hs_y rfl rfl rfl (y_load rfl rfl (fun _ e => ldeq e (ld1 scl3 (cellH_blk (by assumption) rfl)))) ?_
      refine hs_p rfl rfl rfl (y_muli rfl rfl rfl (in64 (by omega) (by omega))) ?_
      refine hs_p rfl rfl rfl (y_fieldAddr rfl fo102_2 rfl) ?_
      refine hs_y rfl rfl rfl (y_load rfl rfl (fun _ e => ldeq e (ld1 scl3 (cellH_blk (by assumption) rfl)))) ?_
      refine hs_p rfl rfl rfl (y_move rfl rfl) ?_
      refine hs_p rfl rfl rfl (y_fieldAddr rfl fo102_3 rfl) ?_
      refine hs_y rfl rfl rfl (y_load rfl rfl (fun _ e => ldeq e (ld1 scl3 (cellH_blk (by assumption) rfl)))) ?_
      refine hs_p rfl rfl rfl (y_move rfl rfl) ?_
      refine hs_p rfl rfl rfl (y_fieldAddr rfl fo102_4 rfl) ?_
      refine hs_y rfl rfl rfl (y_load rfl rfl (fun _ e => ldeq e (ld1 scl3 (cellH_blk (by assumption) rfl)))) ?_
      refine hs_x rfl rfl rfl (x_call rfl go60 rfl (c_VecZeros hvec (by omega))) ?_
      rintro _ _ ⟨rfl, rfl⟩
      refine ⟨rfl, ?_⟩
      refine hs_x rfl rfl rfl (x_call rfl go60 rfl (c_VecZeros hvec (by omega))) ?_
      rintro _ _ ⟨rfl, rfl⟩
      refine ⟨rfl, ?_⟩
      refine hs_p rfl rfl rfl (y_build (cs := [_, _, _, _, _]) rfl pl102 zero102 rfl) ?_
      refine hs_xk rfl rfl rfl (x_call rfl go54 rfl (c_put (p := kid0 l.length f p) H hsml.1 (hQp.pb hn) (fun _ => hk0.pb hn))) rfl ?_
      clear H
      rintro _ h18 ⟨rfl, qv, qb, qc, H⟩
      have hbp := H.obj 2 rfl
      replace hvec := hvec0.ext (H.ext 4 rfl)
      refine hs_nil ?_
      refine thenX_n ?_
      refine cd_seq ?_
      refine cd_forget [(0, .pointer (some ⟨sb, 0, none⟩)), (2, .pointer (some ⟨h.size, 0, none⟩)), (3, .bool false), (4, .bool false), (5, .pointer (some ⟨hq3.size, 0, none⟩)), (7, .pointer (some ⟨gt vbs p.lv, 0, none⟩)), (8, .int .i64 (2 ^ (W - p.lv.toNat - 1))), (9, .int .i64 (l.length - cntF f l.length))] ⟨rfl, rfl, rfl, rfl, rfl, rfl, rfl, rfl, trivial⟩ ?_
      intro ρ
      refine cd_draw (some 25) (fun x => x = h18) [(0, 0), (1, 0), (2, 1), (3, 0), (4, 0), (5, 1), (6, 0), (7, 0), (8, 0), (9, 1), (10, 0), (11, 0), (12, 0), (13, 0), (14, 0), (15, 1), (18, 0), (19, 0), (20, 0), (21, 1), (16, 2), (17, 0), (22, 2), (23, 0), (24, 0), (25, 2)] mixed (by kernel_rfl) (by kernel_rfl) (by kernel_rfl) ?_ ?_
      · exact rfl
      refine hs_p rfl rfl rfl (y_move rfl rfl) ?_
      refine hs_p rfl rfl rfl (y_fieldAddr rfl fo102_0 rfl) ?_
      refine hs_y rfl rfl rfl (y_load rfl rfl (fun _ e => ldeq e (ld1 scl3 (cellH_blk (by assumption) rfl)))) ?_
      refine hs_p rfl rfl rfl (y_addi rfl rfl rfl (in64 (by omega) (by omega))) ?_
      refine hs_p rfl rfl rfl (y_fieldAddr rfl fo102_1 rfl) ?_
      refine hs_y rfl rfl rfl (y_load rfl rfl (fun _ e => ldeq e (ld1 scl3 (cellH_blk (by assumption) rfl)))) ?_
      refine hs_p rfl rfl rfl (y_muli rfl rfl rfl (in64 (by omega) (by omega))) ?_
      refine hs_p rfl rfl rfl (y_addi rfl rfl rfl (in64 (by omega) (by omega))) ?_
      refine hs_p rfl rfl rfl (y_fieldAddr rfl fo102_2 rfl) ?_
      refine hs_y rfl rfl rfl (y_load rfl rfl (fun _ e => ldeq e (ld1 scl3 (cellH_blk (by assumption) rfl)))) ?_
      refine hs_p rfl rfl rfl (y_move rfl rfl) ?_
      refine hs_p rfl rfl rfl (y_addi rfl rfl rfl (in64 (by omega) (by omega))) ?_
      refine hs_p rfl rfl rfl (y_move rfl rfl) ?_
      refine hs_p rfl rfl rfl (y_move rfl rfl) ?_
      refine hs_p rfl rfl rfl (y_fieldAddr rfl fo102_3 rfl) ?_
      refine hs_y rfl rfl rfl (y_load rfl rfl (fun _ e => ldeq e (ld1 scl3 (cellH_blk (by assumption) rfl)))) ?_
      refine hs_p rfl rfl rfl (y_move rfl rfl) ?_
      refine hs_p rfl rfl rfl (y_move rfl rfl) ?_
      refine hs_p rfl rfl rfl (y_fieldAddr rfl fo102_4 rfl) ?_
      refine hs_y rfl rfl rfl (y_load rfl rfl (fun _ e => ldeq e (ld1 scl3 (cellH_blk (by assumption) rfl)))) ?_
      refine hs_x rfl rfl rfl (x_call rfl go61 rfl (c_VecRank hvec)) ?_
      rintro _ _ ⟨rfl, rfl⟩
      refine ⟨rfl, ?_⟩
      refine hs_p rfl rfl rfl (y_addi rfl rfl rfl (in64 (by omega) (by omega))) ?_
      refine hs_x rfl rfl rfl (x_call rfl go61 rfl (c_VecRank hvec)) ?_
      rintro _ _ ⟨rfl, rfl⟩
      refine ⟨rfl, ?_⟩
      refine hs_p rfl rfl rfl (y_addi rfl rfl rfl (in64 (by omega) (by omega))) ?_
      refine hs_p rfl rfl rfl (y_build (cs := [_, _, _, _, _]) rfl pl102 zero102 rfl) ?_
      refine hs_xk rfl rfl rfl (x_call rfl go54 rfl (c_put (p := kid1 W l.length f p) H (hsml.2 _) (putQ_pb (hQp.pb hn) (hk0.pb hn)) (fun _ => hk1.pb hn))) rfl ?_
      clear H
      rintro _ h22 ⟨rfl, qv, qb, qc, H⟩
      refine hs_nil ?_
      refine thenX_n ?_
      refine cd_seq ?_
      refine cd_forget [(0, .pointer (some ⟨sb, 0, none⟩)), (2, .pointer (some ⟨h.size, 0, none⟩)), (3, .bool false), (4, .bool false)] ⟨rfl, rfl, rfl, rfl, trivial⟩ ?_
      intro ρ
      refine cd_region ?_
      refine ol_y rfl rfl (y_build (cs := [_, _]) rfl pl41 zero41 rfl) ?_
      refine ol_x rfl rfl (by first | exact x_storeW rfl rfl rfl rfl sz41 rfl H 0 rfl rfl rfl | exact x_storeW rfl rfl rfl rfl sz41 rfl H 1 rfl rfl rfl | exact x_storeW rfl rfl rfl rfl sz41 rfl H 2 rfl rfl rfl | exact x_storeW rfl rfl rfl rfl sz41 rfl H 3 rfl rfl rfl | exact x_storeW rfl rfl rfl rfl sz41 rfl H 4 rfl rfl rfl | exact x_storeW rfl rfl rfl rfl sz41 rfl H 5 rfl rfl rfl) ?_
      clear H
      rintro _ h24 ⟨rfl, hz23, H⟩
      dsimp only [setP, List.set] at H
      have hcb := H.obj 3 rfl
      refine ol_y rfl rfl (y_assign rfl rfl) ?_
      refine ol_y rfl rfl (y_assign rfl rfl) ?_
      refine ol_nil ?_
      refine thenX_n ?_
      refine cd_ret ?_
      refine ret3c Try.results23 rfl (ldBlk agg41 (by assumption) rfl) rfl rfl ?_
      rw [← hnl] at H
      have hS := hnodeS hlW
      refine ⟨(0, 0), false, true, nodeL W l q, qv, qb, qc, rfl, hS, ?_⟩
      have H1 := (H.front 2).drop
      dsimp only [nthP, eraseP] at H1
      have H2 := (H1.front 2).drop
      dsimp only [nthP, eraseP] at H2
      exact H2


end Go.X
