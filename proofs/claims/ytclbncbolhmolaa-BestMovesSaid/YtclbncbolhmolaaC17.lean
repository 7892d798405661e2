/- wave.within, down, distinct, Distinct: printed walks. -/
import Derived.Test.YtclbncbolhmolaaC16
import Derived.Test.YtclbncbolhmolaaM8
namespace Go.X
open Go Go.Proofs
set_option linter.unusedVariables false
set_option linter.unusedSimpArgs false
attribute [local irreducible] rowP HP.obj HP.old
theorem partI_slice (xs : List Int) (a b : Int) : ∀ k : Nat, k ≤ xs.length → partI xs a b k = sliceL xs (max a 0).toNat (min b k).toNat
  | 0, _ => by rw [sliceL_nil _ (by omega)]; rfl
  | k + 1, h => by
    rw [partI, partI_slice xs a b k (by omega)]
    split
    · rename_i hc
      have e1 : (min b ((k + 1 : Nat) : Int)).toNat = k + 1 := by omega
      have e2 : (min b (k : Int)).toNat = k := by omega
      have e3 : ((max a 0).toNat) ≤ k := by omega
      rw [e1, e2]
      generalize (max a 0).toNat = a' at *
      unfold sliceL
      rw [show k + 1 - a' = (k - a') + 1 by omega, List.take_add_one]
      congr 1
      have hg := gt_get (xs := xs) (i := (k : Int)) (by omega) (by omega)
      rw [Int.toNat_natCast] at hg
      rw [List.getElem?_drop, show a' + (k - a') = k by omega, hg]; rfl
    · rename_i hc
      rw [List.append_nil]
      rcases Int.lt_or_le (k : Int) a with h1 | h1
      · rw [sliceL_nil _ (by omega), sliceL_nil _ (by omega)]
      · congr 1; omega

theorem c_within {h : Heap} {po : Option Addr} {W : Nat} {l : List Int} {vbs : List Nat} {a b : Int} (hm : MatV h po l W vbs) :
    FnT Try.prog 62 [.pointer po, .int .i64 a, .int .i64 b] h (fun v h' => v = .tuple #[.int .i64 (max a 0), .int .i64 (max (max a 0) (min b l.length))] ∧ h = h') := by
  refine fn_enter Try.func62 rfl Try.ntmps62 rfl ?_
  refine cd_seq ?_
  refine cd_region ?_
  refine ol_y rfl rfl (y_assign rfl rfl) ?_
  refine ol_y rfl rfl (y_assign rfl rfl) ?_
  refine ol_nil ?_
  refine thenX_n ?_
  refine cd_seq ?_
  refine cd_region ?_
  refine ol_y rfl rfl (y_move rfl rfl) ?_
  refine ol_y rfl rfl (y_max rfl rfl rfl) ?_
  refine ol_y rfl rfl (y_assign rfl rfl) ?_
  refine ol_nil ?_
  refine thenX_n ?_
  refine cd_seq ?_
  refine cd_region ?_
  refine ol_y rfl rfl (y_move rfl rfl) ?_
  refine ol_y rfl rfl (y_move rfl rfl) ?_
  refine ol_y rfl rfl (y_move rfl rfl) ?_
  refine ol_y rfl rfl (y_move rfl rfl) ?_
  refine ol_x rfl rfl (x_call rfl go55 rfl (c_MatLen hm)) ?_
  rintro _ _ ⟨rfl, rfl⟩
  refine ol_y rfl rfl (y_min rfl rfl rfl) ?_
  refine ol_y rfl rfl (y_max rfl rfl rfl) ?_
  refine ol_y rfl rfl (y_assign rfl rfl) ?_
  refine ol_y rfl rfl (y_assign rfl rfl) ?_
  refine ol_nil ?_
  refine thenX_n ?_
  refine cd_ret ?_
  refine ret2 Try.results62 rfl rfl ?_
  exact ⟨rfl, rfl⟩


theorem c_downF {h : Heap} {vb n : Nat} {f : Nat → Bool} {i : Int} (hv : VecF h vb f n) (hi : 0 ≤ i ∧ i ≤ n) (hn : n ≤ 4194304) :
    FnT Try.prog 92 [.pointer (some ⟨vb, 0, none⟩), .int .i64 i, .bool false] h (fun v h' => v = .int .i64 (max 0 (min i n) - cntF f i.toNat) ∧ h = h') := by
  refine fn_enter Try.func92 rfl Try.ntmps92 rfl ?_
  refine cd_seq ?_
  refine cd_region ?_
  refine ol_y rfl rfl (y_assign rfl rfl) ?_
  refine ol_nil ?_
  refine thenX_n ?_
  refine cd_seq ?_
  refine cd_seq ?_
  refine cd_region ?_
  refine ol_y rfl rfl (y_move rfl rfl) ?_
  refine ol_nil ?_
  refine thenX_n ?_
  refine cd_false rfl rfl ?_
  refine cd_skip ?_
  refine thenX_n ?_
  refine cd_seq ?_
  refine cd_region ?_
  refine ol_y rfl rfl (y_move rfl rfl) ?_
  refine ol_y rfl rfl (y_move rfl rfl) ?_
  refine ol_x rfl rfl (x_call rfl go60 rfl (c_VecZeros hv (by omega))) ?_
  rintro _ _ ⟨rfl, rfl⟩
  refine ol_y rfl rfl (y_assign rfl rfl) ?_
  refine ol_nil ?_
  refine thenX_n ?_
  refine cd_ret ?_
  refine ret1 Try.results92 rfl ?_
  exact ⟨rfl, rfl⟩


theorem c_downT {h : Heap} {vb n : Nat} {f : Nat → Bool} {i : Int} (hv : VecF h vb f n) (hi : 0 ≤ i ∧ i ≤ n) (hn : n ≤ 4194304) :
    FnT Try.prog 92 [.pointer (some ⟨vb, 0, none⟩), .int .i64 i, .bool true] h (fun v h' => v = .int .i64 ((n - cntF f n) + cntF f i.toNat) ∧ h = h') := by
  have hcl := cntF_le f n
  have hcl2 := cntF_le f i.toNat
  have hcn : cntF f ((n : Int)).toNat = cntF f n := by rw [Int.toNat_natCast]
  refine fn_enter Try.func92 rfl Try.ntmps92 rfl ?_
  refine cd_seq ?_
  refine cd_region ?_
  refine ol_y rfl rfl (y_assign rfl rfl) ?_
  refine ol_nil ?_
  refine thenX_n ?_
  refine cd_seq ?_
  refine cd_seq ?_
  refine cd_region ?_
  refine ol_y rfl rfl (y_move rfl rfl) ?_
  refine ol_nil ?_
  refine thenX_n ?_
  refine cd_true rfl rfl ?_
  refine cd_seq ?_
  refine cd_region ?_
  refine ol_y rfl rfl (y_move rfl rfl) ?_
  refine ol_y rfl rfl (y_move rfl rfl) ?_
  refine ol_x rfl rfl (x_call rfl go58 rfl (c_VecLen hv)) ?_
  rintro _ _ ⟨rfl, rfl⟩
  refine ol_x rfl rfl (x_call rfl go60 rfl (c_VecZeros hv (by omega))) ?_
  rintro _ _ ⟨rfl, rfl⟩
  refine ol_y rfl rfl (y_move rfl rfl) ?_
  refine ol_y rfl rfl (y_move rfl rfl) ?_
  refine ol_x rfl rfl (x_call rfl go61 rfl (c_VecRank hv)) ?_
  rintro _ _ ⟨rfl, rfl⟩
  refine ol_y rfl rfl (y_addi rfl rfl rfl (in64 (by omega) (by omega))) ?_
  refine ol_y rfl rfl (y_assign rfl rfl) ?_
  refine ol_nil ?_
  refine thenX_n ?_
  refine cd_ret ?_
  refine thenX_r ?_
  refine ret1 Try.results92 rfl ?_
  refine ⟨vint ?_, rfl⟩
  rw [Int.toNat_natCast]; omega


theorem c_distinct1 {h h0 : Heap} {mb W : Nat} {l A : List Int} {vbs : List Nat} {ov : Value} {ob oc : Nat} {out : List Pr} {p : Prt} {L : List HP} (hm : MatF h0 mb l W vbs) (hp : PartOk W l A p) (H : Sep h (rowP ePr 2 41 ov ob oc out :: HP.old h0 :: L)) (hol : out.length + (p.b - p.a) ≤ 4194304) (ih : p.lv < W → ∀ {h : Heap} {ov : Value} {ob oc : Nat} {out : List Pr} {k : Prt}, k.lv = p.lv + 1 → PartOk W l A k → Sep h (rowP ePr 2 41 ov ob oc out :: HP.old h0 :: L) → out.length + (k.b - k.a) ≤ 4194304 →
    FnT Try.prog 63 [.pointer (some ⟨mb, 0, none⟩), ov, .int .i64 k.lv, .int .i64 k.c, .int .i64 k.a, .int .i64 k.b] h (fun v h' => ∃ ob oc D, NodeD W A k D ∧ Sep h' (rowP ePr 2 41 v ob oc (out ++ D) :: HP.old h0 :: L))) :
    FnT Try.prog 63 [.pointer (some ⟨mb, 0, none⟩), ov, .int .i64 p.lv, .int .i64 p.c, .int .i64 p.a, .int .i64 p.b] h (fun v h' => ∃ ob oc D, NodeD W A p D ∧ Sep h' (rowP ePr 2 41 v ob oc (out ++ D) :: HP.old h0 :: L)) := by
  have hn := hm.n
  have hm1 := hm.ext (H.ext 1 rfl)
  obtain ⟨T, lv, lb, lc, hb, hlv, hlr⟩ := hm1.out
  have hvl := hm.len
  have hW := hm.w22
  have hlv0 := hp.lv0
  have hlv1 := hp.lv1
  have ha0 := hp.a0
  have hab := hp.ab
  have hbn := hp.bn
  have hc0_ := hp.c0
  have hc1_ := hp.c1
  have hp1 := pow22 (n := p.lv.toNat) (by omega)
  refine fn_enter Try.func63 rfl Try.ntmps63 rfl ?_
  refine cd_seq ?_
  refine cd_region ?_
  refine ol_y rfl rfl (y_assign rfl rfl) ?_
  refine ol_nil ?_
  refine thenX_n ?_
  refine cd_seq ?_
  refine cd_block ?_
  refine cd_seq ?_
  refine cd_region ?_
  refine ol_y rfl rfl (y_move rfl rfl) ?_
  refine ol_y rfl rfl (y_move rfl rfl) ?_
  refine ol_y rfl rfl (y_eql rfl rfl rfl) ?_
  refine ol_y rfl rfl (y_assign rfl rfl) ?_
  refine ol_nil ?_
  refine thenX_n ?_
  refine cd_cond _ rfl (fun hc0 => ?_) (fun hc0 => ?_)
  · (try replace hc0 := of_decide_eq_true hc0)
    refine cd_seq ?_
    refine cd_region ?_
    refine ol_y rfl rfl (y_move rfl rfl) ?_
    refine ol_y rfl rfl (y_assign rfl rfl) ?_
    refine ol_nil ?_
    refine thenX_n ?_
    refine cd_ret ?_
    refine blockX_r ?_
    refine thenX_r ?_
    refine ret1 Try.results63 rfl ?_
    exact ⟨ob, oc, [], NodeD.none hp hc0, by rw [List.append_nil]; exact H⟩
  · (try replace hc0 := of_decide_eq_false hc0)
    refine cd_seq ?_
    refine cd_region ?_
    refine ol_y rfl rfl (y_move rfl rfl) ?_
    refine ol_y rfl rfl (y_move rfl rfl) ?_
    refine ol_y rfl rfl (y_nilCheck rfl rfl) ?_
    refine ol_y rfl rfl (y_fieldAddr rfl fo88_1 rfl) ?_
    refine ol_y rfl rfl (y_load rfl rfl (fun _ e => ldeq e (ld1 scl3 (cellH_blk (by assumption) rfl)))) ?_
    refine ol_y rfl rfl (y_eql rfl rfl rfl) ?_
    refine ol_y rfl rfl (y_assign rfl rfl) ?_
    refine ol_nil ?_
    refine thenX_n ?_
    refine cd_cond _ rfl (fun hc1 => ?_) (fun hc1 => ?_)
    · (try replace hc1 := of_decide_eq_true hc1)
      refine cd_seq ?_
      refine cd_region ?_
      refine ol_y rfl rfl (y_move rfl rfl) ?_
      refine ol_y rfl rfl (y_move rfl rfl) ?_
      refine ol_y rfl rfl (y_move rfl rfl) ?_
      refine ol_y rfl rfl (y_move rfl rfl) ?_
      refine ol_y rfl rfl (y_subi rfl rfl rfl (in64 (by omega) (by omega))) ?_
      refine ol_y rfl rfl (y_build (cs := [_, _]) rfl pl41 zero41 rfl) ?_
      refine ol_x rfl rfl (x_buildSlice (cs := [_, _]) rfl Try.underlying30 info41 rfl rfl rfl rfl H) ?_
      clear H
      rintro _ h1 ⟨rfl, hz_b, H⟩
      replace H := Sep.rowBlk (enc := ePr) (xs := [(p.c, p.b - p.a)]) ePr_ok rfl (one_maxLen _) H
      have hv4_7 := H.rowV ePr_ok 0 rfl
      have hr4_7 := H.rowR ePr_ok 0 rfl
      replace H := H.drop
      have HF := H.front 0
      dsimp only [nthP, eraseP] at HF
      refine ol_x rfl rfl (x_append (enc := ePr) rfl Try.underlying30 info41 rfl (by decide) ePr_ok rfl rfl hv4_7 hr4_7 rfl (by simp only [List.length_cons, List.length_nil, maxLen]; omega) (by simp only [List.length_cons, List.length_nil, maxLen]; omega) HF) ?_
      clear H HF hv4_7 hr4_7
      rintro ov2 h2 ⟨hz_, ob2, oc2, H⟩
      replace H := H.ins 0
      dsimp only [insP] at H
      have hov2 := H.rowV ePr_ok 0 rfl
      refine ol_y rfl rfl (y_assign rfl rfl) ?_
      refine ol_nil ?_
      refine thenX_n ?_
      refine cd_ret ?_
      refine blockX_r ?_
      refine thenX_r ?_
      refine ret1 Try.results63 rfl ?_
      exact ⟨ob2, oc2, [(p.c, p.b - p.a)], NodeD.leaf hp hc1 (by omega), H⟩
    · (try replace hc1 := of_decide_eq_false hc1)
      have hlW : p.lv < W := by omega
      have hk0 := hp.kid0 hlW
      have hk1 := hp.kid1 hlW
      have hvec0 := hm.lv p.lv.toNat _ (gt_get (xs := vbs) (i := p.lv) hlv0 (by omega))
      have hvec := hvec0.ext (H.ext 1 rfl)
      have hNode := fun {D0 D1} => NodeD.node (D0 := D0) (D1 := D1) hp hlW
      obtain ⟨f, hf⟩ : ∃ f, rowBits (W - 1 - p.lv.toNat) (lvRow W l p.lv.toNat) = f := ⟨_, rfl⟩
      rw [hf] at hk0 hk1 hvec hvec0
      have hNode' : ∀ D0 D1, NodeD W A (kid0 l.length f p) D0 → NodeD W A (kid1 W l.length f p) D1 → NodeD W A p (D0 ++ D1) := fun D0 D1 => hf ▸ NodeD.node (D0 := D0) (D1 := D1) hp hlW
      clear hNode
      have m1 := cntF_mono2 f (show p.a.toNat ≤ p.b.toNat by omega)
      have m2 := cntF_mono2 f (show p.b.toNat ≤ l.length by omega)
      have m0 := cntF_le f p.a.toNat
      have hs0 : (kid0 l.length f p).b - (kid0 l.length f p).a = (p.b - p.a) - (cntF f p.b.toNat - cntF f p.a.toNat) := by simp only [kid0]; omega
      have hs1 : (kid1 W l.length f p).b - (kid1 W l.length f p).a = (cntF f p.b.toNat : Int) - cntF f p.a.toNat := by simp only [kid1]; omega
      refine cd_skip ?_
      refine blockX_n ?_
      refine thenX_n ?_
      refine cd_seq ?_
      refine cd_region ?_
      refine ol_y rfl rfl (y_move rfl rfl) ?_
      refine ol_y rfl rfl (y_nilCheck rfl rfl) ?_
      refine ol_y rfl rfl (y_fieldAddr rfl fo88_2 rfl) ?_
      refine ol_y rfl rfl (y_load rfl rfl (fun _ e => ldeq e (ld1 scl86 (cellH_blk (by assumption) rfl)))) ?_
      refine ol_y rfl rfl (y_move rfl rfl) ?_
      refine ol_y rfl rfl (y_indexV rfl Try.underlying86 sz93 rfl (by first | assumption | exact SlV.mk' _ _ _ _) rfl (by omega) (by omega)) ?_
      refine ol_y rfl rfl (y_load rfl rfl (fun _ e => ldeq e (ld_row (f := fun b : Nat => Value.pointer (some ⟨b, 0, none⟩)) (xs := vbs) scl93 hlr (by omega) (by omega)))) ?_
      refine ol_y rfl rfl (y_assign rfl rfl) ?_
      refine ol_nil ?_
      refine thenX_n ?_
      refine cd_seq ?_
      refine cd_region ?_
      refine ol_y rfl rfl (y_move rfl rfl) ?_
      refine ol_y rfl rfl (y_move rfl rfl) ?_
      refine ol_y rfl rfl (y_move rfl rfl) ?_
      refine ol_y rfl rfl (y_addi rfl rfl rfl (in64 (by omega) (by omega))) ?_
      refine ol_y rfl rfl (y_move rfl rfl) ?_
      refine ol_y rfl rfl (y_muli rfl rfl rfl (in64 (by omega) (by omega))) ?_
      refine ol_y rfl rfl (y_move rfl rfl) ?_
      refine ol_y rfl rfl (y_move rfl rfl) ?_
      refine ol_x rfl rfl (x_call rfl go92 rfl (c_downF hvec ⟨by omega, by omega⟩ hn)) ?_
      rintro _ _ ⟨rfl, rfl⟩
      refine ol_y rfl rfl (y_move rfl rfl) ?_
      refine ol_y rfl rfl (y_move rfl rfl) ?_
      refine ol_x rfl rfl (x_call rfl go92 rfl (c_downF hvec ⟨by omega, by omega⟩ hn)) ?_
      rintro _ _ ⟨rfl, rfl⟩
      refine ol_x rfl rfl (x_call rfl go63 rfl (ih hlW (k := kid0 l.length f p) rfl hk0 H (by omega))) ?_
      clear H
      rintro ov1 h6 ⟨ob1, oc1, D0, hD0, H⟩
      refine ol_y rfl rfl (y_assign rfl rfl) ?_
      refine ol_nil ?_
      refine thenX_n ?_
      refine cd_seq ?_
      refine cd_region ?_
      replace hvec := hvec0.ext (H.ext 1 rfl)
      have hd0l := hD0.le
      refine ol_y rfl rfl (y_move rfl rfl) ?_
      refine ol_y rfl rfl (y_move rfl rfl) ?_
      refine ol_y rfl rfl (y_move rfl rfl) ?_
      refine ol_y rfl rfl (y_addi rfl rfl rfl (in64 (by omega) (by omega))) ?_
      refine ol_y rfl rfl (y_move rfl rfl) ?_
      refine ol_y rfl rfl (y_muli rfl rfl rfl (in64 (by omega) (by omega))) ?_
      refine ol_y rfl rfl (y_addi rfl rfl rfl (in64 (by omega) (by omega))) ?_
      refine ol_y rfl rfl (y_move rfl rfl) ?_
      refine ol_y rfl rfl (y_move rfl rfl) ?_
      refine ol_x rfl rfl (x_call rfl go92 rfl (c_downT hvec ⟨by omega, by omega⟩ hn)) ?_
      rintro _ _ ⟨rfl, rfl⟩
      refine ol_y rfl rfl (y_move rfl rfl) ?_
      refine ol_y rfl rfl (y_move rfl rfl) ?_
      refine ol_x rfl rfl (x_call rfl go92 rfl (c_downT hvec ⟨by omega, by omega⟩ hn)) ?_
      rintro _ _ ⟨rfl, rfl⟩
      refine ol_x rfl rfl (x_call rfl go63 rfl (ih hlW (k := kid1 W l.length f p) rfl hk1 H (by rw [List.length_append]; omega))) ?_
      clear H
      rintro ov2 h10 ⟨ob2, oc2, D1, hD1, H⟩
      refine ol_y rfl rfl (y_assign rfl rfl) ?_
      refine ol_nil ?_
      refine thenX_n ?_
      refine cd_ret ?_
      refine ret1 Try.results63 rfl ?_
      rw [List.append_assoc] at H
      exact ⟨ob2, oc2, D0 ++ D1, hNode' _ _ hD0 hD1, H⟩


theorem c_distinct (n : Nat) : ∀ {h h0 : Heap} {mb W : Nat} {l A : List Int} {vbs : List Nat} {ov : Value} {ob oc : Nat} {out : List Pr} {p : Prt} {L : List HP}, MatF h0 mb l W vbs → PartOk W l A p → Sep h (rowP ePr 2 41 ov ob oc out :: HP.old h0 :: L) → out.length + (p.b - p.a) ≤ 4194304 → W - p.lv.toNat = n →
    FnT Try.prog 63 [.pointer (some ⟨mb, 0, none⟩), ov, .int .i64 p.lv, .int .i64 p.c, .int .i64 p.a, .int .i64 p.b] h (fun v h' => ∃ ob oc D, NodeD W A p D ∧ Sep h' (rowP ePr 2 41 v ob oc (out ++ D) :: HP.old h0 :: L)) := by
  induction n with
  | zero =>
    intro h h0 mb W l A vbs ov ob oc out p L hm hp H hol hn
    exact c_distinct1 hm hp H hol (fun hl => by have := hp.lv0; omega)
  | succ n ih =>
    intro h h0 mb W l A vbs ov ob oc out p L hm hp H hol hn
    exact c_distinct1 hm hp H hol (fun hl => fun hk hpk H hol => ih hm hpk H hol (by have := hp.lv0; omega))

theorem c_DistinctN {h h0 : Heap} {a b : Int} {L : List HP} (H : Sep h (HP.old h0 :: L)) :
    FnT Try.prog 25 [.pointer none, .int .i64 a, .int .i64 b] h (fun v h' => ∃ ob oc D, PairsOf [] D ∧ Sep h' (rowP ePr 2 41 v ob oc D :: HP.old h0 :: L)) := by
  have hm : MatV h none [] 0 [] := .inl ⟨rfl, rfl⟩
  refine fn_enter Try.func25 rfl Try.ntmps25 rfl ?_
  refine cd_seq ?_
  refine cd_region ?_
  refine ol_y rfl rfl (y_assign rfl rfl) ?_
  refine ol_nil ?_
  refine thenX_n ?_
  refine cd_seq ?_
  refine cd_region ?_
  refine ol_y rfl rfl (y_move rfl rfl) ?_
  refine ol_y rfl rfl (y_move rfl rfl) ?_
  refine ol_y rfl rfl (y_move rfl rfl) ?_
  refine ol_x rfl rfl (x_call rfl go62 rfl (c_within hm)) ?_
  rintro _ _ ⟨rfl, rfl⟩
  refine ol_y rfl rfl (y_move rfl rfl) ?_
  refine ol_y rfl rfl (y_extract rfl rfl rfl) ?_
  refine ol_y rfl rfl (y_extract rfl rfl rfl) ?_
  refine ol_y rfl rfl (y_assign rfl rfl) ?_
  refine ol_y rfl rfl (y_assign rfl rfl) ?_
  refine ol_nil ?_
  refine thenX_n ?_
  refine cd_seq ?_
  refine cd_seq ?_
  refine cd_region ?_
  refine ol_y rfl rfl (y_move rfl rfl) ?_
  refine ol_y rfl rfl (y_move rfl rfl) ?_
  refine ol_x rfl rfl (x_call rfl go55 rfl (c_MatLen hm)) ?_
  rintro _ _ ⟨rfl, rfl⟩
  refine ol_y rfl rfl (y_geq rfl rfl rfl) ?_
  refine ol_nil ?_
  refine thenX_n ?_
  refine cd_cond _ rfl (fun hc0 => ?_) (fun hc0 => ?_)
  · (try replace hc0 := of_decide_eq_true hc0)
    refine cd_seq ?_
    refine cd_region ?_
    refine ol_y rfl rfl (y_assign rfl rfl) ?_
    refine ol_nil ?_
    refine thenX_n ?_
    refine cd_ret ?_
    refine thenX_r ?_
    refine ret1 Try.results25 rfl ?_
    exact ⟨0, 0, [], PairsOf.nil, H.rowNil ePr 2 41 0⟩
  · (try replace hc0 := of_decide_eq_false hc0)
    exfalso; simp at hc0; omega


theorem c_DistinctF {h h0 : Heap} {mb W : Nat} {l : List Int} {vbs : List Nat} {a b : Int} {L : List HP} (H : Sep h (HP.old h0 :: L)) (hm : MatF h0 mb l W vbs) :
    FnT Try.prog 25 [.pointer (some ⟨mb, 0, none⟩), .int .i64 a, .int .i64 b] h (fun v h' => ∃ ob oc D, PairsOf (sliceL l (max a 0).toNat (min b l.length).toNat) D ∧ Sep h' (rowP ePr 2 41 v ob oc D :: HP.old h0 :: L)) := by
  have hn := hm.n
  have hmV : MatV h (some ⟨mb, 0, none⟩) l W vbs := .inr ⟨mb, rfl, hm.ext (H.ext 0 rfl)⟩
  refine fn_enter Try.func25 rfl Try.ntmps25 rfl ?_
  refine cd_seq ?_
  refine cd_region ?_
  refine ol_y rfl rfl (y_assign rfl rfl) ?_
  refine ol_nil ?_
  refine thenX_n ?_
  refine cd_seq ?_
  refine cd_region ?_
  refine ol_y rfl rfl (y_move rfl rfl) ?_
  refine ol_y rfl rfl (y_move rfl rfl) ?_
  refine ol_y rfl rfl (y_move rfl rfl) ?_
  refine ol_x rfl rfl (x_call rfl go62 rfl (c_within hmV)) ?_
  rintro _ _ ⟨rfl, rfl⟩
  refine ol_y rfl rfl (y_move rfl rfl) ?_
  refine ol_y rfl rfl (y_extract rfl rfl rfl) ?_
  refine ol_y rfl rfl (y_extract rfl rfl rfl) ?_
  refine ol_y rfl rfl (y_assign rfl rfl) ?_
  refine ol_y rfl rfl (y_assign rfl rfl) ?_
  refine ol_nil ?_
  refine thenX_n ?_
  refine cd_seq ?_
  refine cd_seq ?_
  refine cd_region ?_
  refine ol_y rfl rfl (y_move rfl rfl) ?_
  refine ol_y rfl rfl (y_move rfl rfl) ?_
  refine ol_x rfl rfl (x_call rfl go55 rfl (c_MatLen hmV)) ?_
  rintro _ _ ⟨rfl, rfl⟩
  refine ol_y rfl rfl (y_geq rfl rfl rfl) ?_
  refine ol_nil ?_
  refine thenX_n ?_
  refine cd_cond _ rfl (fun hc0 => ?_) (fun hc0 => ?_)
  · (try replace hc0 := of_decide_eq_true hc0)
    refine cd_seq ?_
    refine cd_region ?_
    refine ol_y rfl rfl (y_assign rfl rfl) ?_
    refine ol_nil ?_
    refine thenX_n ?_
    refine cd_ret ?_
    refine thenX_r ?_
    refine ret1 Try.results25 rfl ?_
    refine ⟨0, 0, [], ?_, H.rowNil ePr 2 41 0⟩
    rw [sliceL_nil _ (by omega)]
    exact PairsOf.nil
  · (try replace hc0 := of_decide_eq_false hc0)
    have hp := root_part (W := W) (a := max a 0) (b := max (max a 0) (min b l.length)) hm.rng (by omega) (by omega) (by omega)
    have hD := fun D => NodeD.pairs (W := W) (a := max a 0) (b := max (max a 0) (min b l.length)) (D := D) hm.rng
    have es : sliceL l (max a 0).toNat (max (max a 0) (min b (l.length : Int))).toNat = sliceL l (max a 0).toNat (min b (l.length : Int)).toNat := by
      rcases Int.lt_or_le (max a 0) (min b (l.length : Int)) with h1 | h1
      · congr 1; omega
      · rw [sliceL_nil _ (by omega), sliceL_nil _ (by omega)]
    replace H := H.rowNil ePr 2 41 0
    refine cd_skip ?_
    refine thenX_n ?_
    refine cd_seq ?_
    refine cd_region ?_
    refine ol_y rfl rfl (y_move rfl rfl) ?_
    refine ol_y rfl rfl (y_move rfl rfl) ?_
    refine ol_y rfl rfl (y_move rfl rfl) ?_
    refine ol_x rfl rfl (x_call rfl go63 rfl (c_distinct _ (p := ⟨0, 0, 0, max a 0, max (max a 0) (min b l.length)⟩) hm hp H (by simp; omega) rfl)) ?_
    clear H
    rintro v_ h4 ⟨ob, oc, D, hN, H⟩
    refine ol_y rfl rfl (y_assign rfl rfl) ?_
    refine ol_nil ?_
    refine thenX_n ?_
    refine cd_ret ?_
    refine ret1 Try.results25 rfl ?_
    refine ⟨ob, oc, D, ?_, H⟩
    rw [← es]
    exact hD D hN


end Go.X
