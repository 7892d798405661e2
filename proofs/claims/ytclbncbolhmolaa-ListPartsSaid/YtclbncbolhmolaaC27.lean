/- law17: printed walks. -/
import Derived.Test.YtclbncbolhmolaaC26
import Derived.Test.YtclbncbolhmolaaC23
namespace Go.X
open Go Go.Proofs
set_option linter.unusedVariables false
set_option linter.unusedSimpArgs false
set_option maxHeartbeats 1000000
/-- the blocks that came between h1 and h2, as they were in h2 -/
def HP.got (h1 h2 : Heap) : HP :=
  ⟨fun h F => (∀ x, F x ↔ h1.size ≤ x ∧ x < h2.size) ∧ ∀ b, h1.size ≤ b → b < h2.size → h[b]? = h2[b]?,
   fun {h h' F} ⟨h3, h4⟩ e => ⟨h3, fun b h5 h6 => (e b ((h3 b).2 ⟨h5, h6⟩)).trans (h4 b h5 h6)⟩,
   fun {h F} ⟨h3, h4⟩ b hb => by
    have h5 := (h3 b).1 hb
    have h6 := h4 b h5.1 h5.2
    rw [Array.getElem?_eq_getElem h5.2] at h6
    exact (Array.getElem?_eq_some_iff.1 h6).1⟩
theorem Sep.gain {h1 h2 : Heap} {L : List HP} (H : Sep h1 L) (e : Ext h1 h2) : Sep h2 (HP.got h1 h2 :: L) := by
  obtain ⟨F, hF⟩ := H.out
  refine ⟨fun x => (h1.size ≤ x ∧ x < h2.size) ∨ F x, fun x => h1.size ≤ x ∧ x < h2.size, F, fun x => Iff.rfl, fun x h3 h4 => ?_, ⟨fun x => Iff.rfl, fun _ _ _ => rfl⟩, (Seps L).loc hF fun b hb => e.same b ((Seps L).bd hF b hb)⟩
  have := (Seps L).bd hF x h4
  omega
theorem Sep.gotH {h h1 h2 : Heap} {L : List HP} (H : Sep h L) (i : Nat) (e : nthP L i = HP.got h1 h2) : Kept h1 h2 h := by
  obtain ⟨F, hF⟩ := H.nth i
  rw [e] at hF
  exact ⟨hF.2⟩
attribute [local irreducible] rowP HP.obj HP.old HP.got
theorem docI_parts {l : List Int} {a m b : Int} (h1 : a ≤ m) (h2 : m ≤ b) : docI l a b l.length = docI (docI l a m l.length ++ docI l m b l.length) 0 ((docI l a m l.length ++ docI l m b l.length).length : Int) (docI l a m l.length ++ docI l m b l.length).length := by
  obtain ⟨s1, m1⟩ := docI_of l a b l.length
  obtain ⟨s2, m2⟩ := docI_of l a m l.length
  obtain ⟨s3, m3⟩ := docI_of l m b l.length
  generalize hX : docI l a m l.length ++ docI l m b l.length = X
  obtain ⟨s4, m4⟩ := docI_of X 0 (X.length : Int) X.length
  refine sorted_eq (r := (· < ·)) (fun x y h1 h2 => by omega) _ _ s1 s4 fun x => ?_
  have hx : x ∈ docI X 0 (X.length : Int) X.length ↔ x ∈ X := by
    rw [m4, List.mem_iff_getElem?]
    constructor
    · rintro ⟨i, h3, h4, h5, rfl⟩
      exact ⟨i, by have := gt_get (xs := X) (i := (i : Int)) h4 h5; rwa [Int.toNat_natCast] at this⟩
    · rintro ⟨i, h3⟩
      have h4 := (List.getElem?_eq_some_iff.1 h3).1
      refine ⟨i, h4, by omega, by omega, ?_⟩
      have := gt_get (xs := X) (i := (i : Int)) (by omega) (by omega)
      rw [Int.toNat_natCast, h3] at this
      exact (Option.some.inj this).symm
  rw [hx, ← hX, List.mem_append, m1, m2, m3]
  constructor
  · rintro ⟨i, h3, h4, h5, h6⟩
    rcases Int.lt_or_le (i : Int) m with h7 | h7
    · exact .inl ⟨i, h3, h4, h7, h6⟩
    · exact .inr ⟨i, h3, h7, h5, h6⟩
  · rintro (⟨i, h3, h4, h5, h6⟩ | ⟨i, h3, h4, h5, h6⟩)
    · exact ⟨i, h3, h4, by omega, h6⟩
    · exact ⟨i, h3, by omega, h5, h6⟩
theorem name_ {α : Type} (a : α) : ∃ X, a = X := ⟨a, rfl⟩
theorem u64_pos (n : Int) : 0 ≤ IntKind.u64.wrap n := by
  simp only [IntKind.wrap, IntKind.signed, IntKind.bits]
  have := Int.emod_nonneg n (b := 2 ^ 64) (by decide)
  simp
  omega
theorem rem_lt (a : Int) {n : Int} (h : 0 < n) : 0 ≤ IntKind.u64.wrap a % n ∧ IntKind.u64.wrap a % n < n := ⟨Int.emod_nonneg _ (by omega), Int.emod_lt_of_pos _ h⟩
theorem some2 {da : List Int} {I : List Nat} (h : SomeR da (max 0 0) (min 5 (da.length : Int)) 2 I) (e : da = [2, 0, 2, 2, 1]) : I.length = 2 := by
  subst e
  have h1 := h.le
  rcases h.all with h2 | h2
  · have e0 := h2 0 (by unfold FI; decide)
    have e1 := h2 1 (by unfold FI; decide)
    have e4 := h2 4 (by unfold FI; decide)
    have h3 := nodup_le (D := [0, 1, 4]) (R := I) (by decide) (by intro x hx; simp at hx; rcases hx with rfl | rfl | rfl <;> assumption)
    simp at h3
    rcases h1 with h1 | h1
    · omega
    · rw [h1] at h3; simp at h3
  · rcases h1 with h1 | h1
    · omega
    · rw [h1] at h2; simp at h2

theorem c_first17 {h : Heap} :
    FnT Try.prog 26 [] h (fun v h' => v = .bool true ∧ Ext h h') := by
  have H := Sep.start h
  refine fn_enter Try.func26 rfl Try.ntmps26 rfl ?_
  refine cd_seq ?_
  refine cd_region ?_
  refine ol_y rfl rfl (y_assign rfl rfl) ?_
  refine ol_nil ?_
  refine thenX_n ?_
  refine cd_seq ?_
  refine cd_region ?_
  refine ol_x rfl rfl (x_buildSlice (cs := [_, _, _, _, _]) rfl Try.underlying22 info3 rfl rfl rfl rfl H) ?_
  clear H
  rintro _ h1 ⟨rfl, hzl_b, H⟩
  replace H := Sep.rowBlk (enc := eI) (xs := ([2, 0, 2, 2, 1] : List Int)) eI_ok rfl (by simp [maxLen]) H
  have hv1_0 := H.rowV eI_ok 0 rfl
  have hr1_0 := H.rowR eI_ok 0 rfl
  refine ol_x rfl rfl (x_call rfl go27 rfl (c_listNew hv1_0 hr1_0 (by decide))) ?_
  rintro _ h2 ⟨lb, rfl, hx, hk⟩
  have hE0 := (H.ext 1 rfl).trans hx
  have hlf := hk _ (Kept.refl _ _)
  clear H
  have H := Sep.start h2
  refine ol_y rfl rfl (y_move rfl rfl) ?_
  refine ol_y rfl rfl (y_extract rfl rfl rfl) ?_
  refine ol_y rfl rfl (y_extract rfl rfl rfl) ?_
  refine ol_y rfl rfl (y_assign rfl rfl) ?_
  refine ol_y rfl rfl (y_assign rfl rfl) ?_
  refine ol_nil ?_
  refine thenX_n ?_
  refine cd_seq ?_
  refine cd_region ?_
  refine ol_y rfl rfl (y_move rfl rfl) ?_
  refine ol_y rfl rfl (y_nnilP rfl Try.underlying50 rfl rfl) ?_
  refine ol_y rfl rfl (y_move rfl rfl) ?_
  refine ol_split (t := 10) rfl (fun hg3 => ?_) (fun hg3 => ?_)
  · (try have hg3_ := of_decide_eq_true hg3)
    refine ol_gy rfl rfl rfl rfl hg3 rfl (y_move rfl rfl) ?_
    refine ol_gy rfl rfl rfl rfl hg3 rfl (y_eql rfl rfl rfl) ?_
    refine ol_y rfl rfl (y_pick_t rfl rfl hg3 rfl) ?_
    refine ol_y rfl rfl (y_move rfl rfl) ?_
    refine ol_split (t := 14) rfl (fun hg4 => ?_) (fun hg4 => ?_)
    · (try have hg4_ := of_decide_eq_true hg4)
      refine ol_gy rfl rfl rfl rfl hg4 rfl (y_move rfl rfl) ?_
      refine ol_gx rfl rfl rfl rfl hg4 rfl (x_call rfl go29 rfl (c_Docs (h0 := h2) (a := 0) (b_ := 4) H hlf)) ?_
      clear H
      rintro dv1 h6 ⟨db1, dc1, H⟩
      refine ol_gx rfl rfl rfl rfl hg4 rfl (x_buildSlice (cs := [_, _]) rfl Try.underlying22 info3 rfl rfl rfl rfl H) ?_
      clear H
      rintro _ h7 ⟨rfl, hzl_b, H⟩
      replace H := Sep.rowBlk (enc := eI) (xs := ([0, 2] : List Int)) eI_ok rfl (by simp [maxLen]) H
      have hv2_9 := H.rowV eI_ok 0 rfl
      have hr2_9 := H.rowR eI_ok 0 rfl
      have ho1v := H.rowV eI_ok 1 rfl
      have ho1r := H.rowR eI_ok 1 rfl
      refine ol_gx rfl rfl rfl rfl hg4 rfl (x_call rfl go28 rfl (c_Same8 ho1v ho1r hv2_9 hr2_9 (by decide))) ?_
      rintro _ _ ⟨rfl, rfl⟩
      refine ol_y rfl rfl (y_pick_t rfl rfl hg4 rfl) ?_
      refine ol_y rfl rfl (y_move rfl rfl) ?_
      refine ol_split (t := 20) rfl (fun hg9 => ?_) (fun hg9 => ?_)
      · (try have hg9_ := of_decide_eq_true hg9)
        refine ol_gy rfl rfl rfl rfl hg9 rfl (y_move rfl rfl) ?_
        replace H := H.front 2
        dsimp only [nthP, eraseP] at H
        refine ol_gx rfl rfl rfl rfl hg9 rfl (x_call rfl go29 rfl (c_Docs (h0 := h2) (a := 2) (b_ := 9) H hlf)) ?_
        clear H
        rintro dv2 h11 ⟨db2, dc2, H⟩
        refine ol_gx rfl rfl rfl rfl hg9 rfl (x_buildSlice (cs := [_, _]) rfl Try.underlying22 info3 rfl rfl rfl rfl H) ?_
        clear H
        rintro _ h12 ⟨rfl, hzl_b, H⟩
        replace H := Sep.rowBlk (enc := eI) (xs := ([1, 2] : List Int)) eI_ok rfl (by simp [maxLen]) H
        have hv2_15 := H.rowV eI_ok 0 rfl
        have hr2_15 := H.rowR eI_ok 0 rfl
        have ho2v := H.rowV eI_ok 1 rfl
        have ho2r := H.rowR eI_ok 1 rfl
        refine ol_gx rfl rfl rfl rfl hg9 rfl (x_call rfl go28 rfl (c_Same8 ho2v ho2r hv2_15 hr2_15 (by decide))) ?_
        rintro _ _ ⟨rfl, rfl⟩
        refine ol_y rfl rfl (y_pick_t rfl rfl hg9 rfl) ?_
        refine ol_y rfl rfl (y_move rfl rfl) ?_
        refine ol_split (t := 26) rfl (fun hg14 => ?_) (fun hg14 => ?_)
        · (try have hg14_ := of_decide_eq_true hg14)
          refine ol_gy rfl rfl rfl rfl hg14 rfl (y_move rfl rfl) ?_
          replace H := H.front 2
          dsimp only [nthP, eraseP] at H
          refine ol_gx rfl rfl rfl rfl hg14 rfl (x_call rfl go64 rfl (c_Some (h0 := h2) (a := 0) (b_ := 5) (most := 2) H hlf)) ?_
          clear H
          rintro dv3 h16 ⟨db3, dc3, I, hI, H⟩
          have hI2 := some2 hI rfl
          have hdv3 := H.rowV eI_ok 0 rfl
          have hol3 : (outL [2, 0, 2, 2, 1] I).length = 2 := by simp [outL, hI2]
          refine ol_gy rfl rfl rfl rfl hg14 rfl (y_lenV rfl Try.underlying22 rfl (by first | assumption | exact SlV.mk' _ _ _ _)) ?_
          refine ol_gy rfl rfl rfl rfl hg14 rfl (y_eql rfl rfl rfl) ?_
          refine ol_y rfl rfl (y_pick_t rfl rfl hg14 rfl) ?_
          refine ol_y rfl rfl (y_assign rfl rfl) ?_
          refine ol_nil ?_
          refine thenX_n ?_
          refine cd_ret ?_
          refine ret1 Try.results26 rfl ?_
          refine ⟨vbool (decide_eq_true (by omega)), hE0.trans (H.ext 1 rfl)⟩
        · (try have hg14_ := of_decide_eq_false hg14)
          cases hg14
      · (try have hg9_ := of_decide_eq_false hg9)
        cases hg9
    · (try have hg4_ := of_decide_eq_false hg4)
      cases hg4
  · (try have hg3_ := of_decide_eq_false hg3)
    cases hg3


theorem c_ListDocs {h : Heap} {v : Value} {b p c : Nat} {l : List Int} {a b_ : Int} (hv : SlV v b p l.length c) (hr : Rd eI 1 h b p l) :
    FnT Try.prog 7 [v, .int .i64 a, .int .i64 b_] h (fun v h' => v = .bool true ∧ Ext h h') := by
  have H := Sep.start h
  refine fn_enter Try.func7 rfl Try.ntmps7 rfl ?_
  refine cd_seq ?_
  refine cd_region ?_
  refine ol_y rfl rfl (y_assign rfl rfl) ?_
  refine ol_nil ?_
  refine thenX_n ?_
  refine cd_seq ?_
  refine cd_seq ?_
  refine cd_region ?_
  refine ol_x rfl rfl (x_call rfl go26 rfl c_first17) ?_
  rintro _ h2 ⟨rfl, hx⟩
  replace H := H.extend hx
  have hr1 := hx.rd hr
  refine ol_y rfl rfl (y_not rfl rfl) ?_
  refine ol_nil ?_
  refine thenX_n ?_
  refine cd_false rfl rfl ?_
  refine cd_skip ?_
  refine thenX_n ?_
  refine cd_seq ?_
  refine cd_seq ?_
  refine cd_region ?_
  refine ol_y rfl rfl (y_move rfl rfl) ?_
  refine ol_y rfl rfl (y_lenV rfl Try.underlying22 rfl (by first | assumption | exact SlV.mk' _ _ _ _)) ?_
  refine ol_y rfl rfl (y_gtr rfl rfl rfl) ?_
  refine ol_nil ?_
  refine thenX_n ?_
  refine cd_cond _ rfl (fun hc1 => ?_) (fun hc1 => ?_)
  · (try replace hc1 := of_decide_eq_true hc1)
    refine cd_seq ?_
    refine cd_region ?_
    refine ol_y rfl rfl (y_assign rfl rfl) ?_
    refine ol_nil ?_
    refine thenX_n ?_
    refine cd_ret ?_
    refine thenX_r ?_
    refine ret1 Try.results7 rfl ?_
    exact ⟨rfl, H.ext 0 rfl⟩
  · (try replace hc1 := of_decide_eq_false hc1)
    refine cd_skip ?_
    refine thenX_n ?_
    refine cd_seq ?_
    refine cd_region ?_
    refine ol_x rfl rfl (x_buildSlice (cs := []) rfl Try.underlying22 info3 rfl rfl rfl rfl H) ?_
    clear H
    rintro _ h3 ⟨rfl, hzl_b, H⟩
    replace H := Sep.rowBlk (enc := eI) (xs := ([] : List Int)) eI_ok rfl (by simp [maxLen]) H
    have hv5_0 := H.rowV eI_ok 0 rfl
    have hr5_0 := H.rowR eI_ok 0 rfl
    refine ol_y rfl rfl (y_move rfl rfl) ?_
    refine ol_x rfl rfl (x_append (enc := eI) rfl Try.underlying22 info3 rfl (by decide) eI_ok rfl rfl hv ((H.ext 1 rfl).rd hr) rfl (by simp only [List.length_nil]; omega) (by simp only [List.length_nil, maxLen]; omega) H) ?_
    clear H
    rintro ov h1 ⟨hz52, ob, oc, H⟩
    rw [List.nil_append] at H
    have hov := H.rowV eI_ok 0 rfl
    have hor := H.rowR eI_ok 0 rfl
    refine ol_y rfl rfl (y_assign rfl rfl) ?_
    refine ol_nil ?_
    refine thenX_n ?_
    refine cd_seq ?_
    refine cd_region ?_
    refine ol_y rfl rfl (y_move rfl rfl) ?_
    refine ol_x rfl rfl (x_call rfl go27 rfl (c_listNew hov hor (by omega))) ?_
    rintro _ h2 ⟨lb, rfl, hx2, hk2⟩
    replace H := (H.gain hx2).swap
    have hov0 := hov
    obtain ⟨oa, eov, hoa1, hoa2⟩ := hov0.out
    subst eov
    refine ol_y rfl rfl (y_move rfl rfl) ?_
    refine ol_y rfl rfl (y_extract rfl rfl rfl) ?_
    refine ol_y rfl rfl (y_extract rfl rfl rfl) ?_
    refine ol_y rfl rfl (y_assign rfl rfl) ?_
    refine ol_y rfl rfl (y_assign rfl rfl) ?_
    refine ol_nil ?_
    refine thenX_n ?_
    refine cd_seq ?_
    refine cd_seq ?_
    refine cd_region ?_
    refine ol_y rfl rfl (y_move rfl rfl) ?_
    refine ol_y rfl rfl (y_lenV rfl Try.underlying22 rfl (by first | assumption | exact SlV.mk' _ _ _ _)) ?_
    refine ol_y rfl rfl (y_move rfl rfl) ?_
    refine ol_nil ?_
    refine thenX_n ?_
    refine cd_block ?_
    refine cd_loop (γ := Nat × List Int) (fun g => [(0, v), (1, .int .i64 a), (2, .int .i64 b_), (7, .slice oa l.length oc), (8, .pointer (some ⟨lb, 0, none⟩)), (9, .int .i64 0), (25, .int .i64 l.length), (26, .int .i64 (g.1 : Int))]) (fun g h' => g.1 ≤ l.length ∧ g.2.length = l.length ∧ Sep h' (rowP eI 1 3 (.slice oa l.length oc) ob oc g.2 :: HP.got h1 h2 :: HP.old h :: [])) (fun g => l.length - g.1) ((0, l)) ?_ ?_ ?_
    · (repeat (first | exact trivial | refine ⟨rfl, ?_⟩))
    · exact ⟨Nat.zero_le _, rfl, H⟩
    · skip
      rintro ⟨k, xs⟩ ρ h5 ⟨hk, hxl, H⟩
      (try dsimp only)
      dsimp only at hk hxl H
      have hov1 := H.rowV eI_ok 0 rfl
      rw [hxl] at hov1
      have hxr := H.rowR eI_ok 0 rfl
      have hlf := hk2 _ (H.gotH 1 rfl)
      have hE4 := H.ext 2 rfl
      refine cd_seq ?_
      refine cd_region ?_
      refine ol_y rfl rfl (y_lss rfl rfl rfl) ?_
      refine ol_nil ?_
      refine thenX_n ?_
      refine cd_seq ?_
      refine cd_cond _ rfl (fun hc2 => ?_) (fun hc2 => ?_)
      · (try replace hc2 := of_decide_eq_true hc2)
        refine cd_skip ?_
        refine thenX_n ?_
        refine cd_seq ?_
        refine cd_block ?_
        refine cd_seq ?_
        refine cd_region ?_
        refine ol_y rfl rfl (y_move rfl rfl) ?_
        refine ol_y rfl rfl (y_assign rfl rfl) ?_
        refine ol_nil ?_
        refine thenX_n ?_
        refine cd_region ?_
        refine ol_y rfl rfl (y_move rfl rfl) ?_
        refine ol_y rfl rfl (y_move rfl rfl) ?_
        refine ol_y rfl rfl (y_indexV rfl Try.underlying22 sz3 rfl (by first | assumption | exact SlV.mk' _ _ _ _) rfl (by omega) (by omega)) ?_
        refine ol_y rfl rfl (y_load rfl rfl (fun _ e => ldeq e (ld_row scl3 (by assumption) (by omega) (by omega)))) ?_
        refine ol_y rfl rfl (y_bits rfl rfl rfl rfl) ?_
        refine ol_y rfl rfl (y_indexV rfl Try.underlying22 sz3 rfl (by first | assumption | exact SlV.mk' _ _ _ _) rfl (by omega) (by omega)) ?_
        refine ol_x rfl rfl (x_setRow (f := Value.int .i64) (i := (k : Int)) rfl rfl rfl sz3 (fun _ => ⟨rfl, rfl⟩) (by omega) (by omega) H) ?_
        clear H
        rintro _ h6 ⟨rfl, hz106, H⟩
        refine ol_nil ?_
        refine blockX_n ?_
        refine thenX_n ?_
        refine cd_region ?_
        refine ol_y rfl rfl (y_addi rfl rfl rfl (in64 (by omega) (by omega))) ?_
        refine ol_y rfl rfl (y_move rfl rfl) ?_
        refine ol_nil ?_
        refine thenX_n ?_
        exact ⟨(k + 1, _), ⟨rfl, rfl, rfl, rfl, rfl, rfl, rfl, vint (by simp), trivial⟩, ⟨by (try dsimp only); omega, by simp [hxl], H⟩, by (try dsimp only); omega⟩
      · (try replace hc2 := of_decide_eq_false hc2)
        refine cd_exit ?_
        refine thenX_e ?_
        refine thenX_e ?_
        refine blockX_hit ?_
        refine thenX_n ?_
        refine cd_seq ?_
        refine cd_region ?_
        refine ol_y rfl rfl (y_move rfl rfl) ?_
        refine ol_y rfl rfl (y_eql rfl rfl rfl) ?_
        refine ol_y rfl rfl (y_move rfl rfl) ?_
        refine ol_split (t := 38) rfl (fun hg7 => ?_) (fun hg7 => ?_)
        · (try have hg7_ := of_decide_eq_true hg7)
          refine ol_gy rfl rfl rfl rfl hg7 rfl (y_move rfl rfl) ?_
          refine ol_gy rfl rfl rfl rfl hg7 rfl (y_move rfl rfl) ?_
          refine ol_gy rfl rfl rfl rfl hg7 rfl (y_move rfl rfl) ?_
          replace H := Sep.start h5
          refine ol_gx rfl rfl rfl rfl hg7 rfl (x_call rfl go29 rfl (c_Docs H hlf)) ?_
          clear H
          rintro dv h9 ⟨db, dc, H⟩
          have hr4 := hE4.rd hr
          replace H := H.front 1
          dsimp only [nthP, eraseP] at H
          refine ol_gy rfl rfl rfl rfl hg7 rfl (y_move rfl rfl) ?_
          refine ol_gy rfl rfl rfl rfl hg7 rfl (y_move rfl rfl) ?_
          refine ol_gy rfl rfl rfl rfl hg7 rfl (y_move rfl rfl) ?_
          refine ol_gx rfl rfl rfl rfl hg7 rfl (x_call rfl go30 rfl (c_refDocs H hv hr4 (by omega))) ?_
          clear H
          rintro rv h11 ⟨rb, rc, H⟩
          have hv1 := H.rowV eI_ok 2 rfl
          have hr5 := H.rowR eI_ok 2 rfl
          have hv2 := H.rowV eI_ok 0 rfl
          have hr6 := H.rowR eI_ok 0 rfl
          have hdl := docI_len l a b_ l.length
          refine ol_gx rfl rfl rfl rfl hg7 rfl (x_call rfl go28 rfl (c_Same8 hv1 hr5 hv2 hr6 (by omega))) ?_
          rintro _ _ ⟨rfl, rfl⟩
          refine ol_y rfl rfl (y_pick_t rfl rfl hg7 rfl) ?_
          refine ol_y rfl rfl (y_assign rfl rfl) ?_
          refine ol_nil ?_
          refine thenX_n ?_
          refine cd_ret ?_
          refine ret1 Try.results7 rfl ?_
          exact ⟨vbool (by simp), hE4.trans (H.ext 1 rfl)⟩
        · (try have hg7_ := of_decide_eq_false hg7)
          cases hg7


theorem c_ListParts {h : Heap} {v : Value} {b p c : Nat} {l : List Int} {a0 a1 a2 : Int} (hv : SlV v b p l.length c) (hr : Rd eI 1 h b p l) :
    FnT Try.prog 8 [v, .agg #[.int .i64 a0, .int .i64 a1, .int .i64 a2]] h (fun v h' => v = .bool true ∧ Ext h h') := by
  have H := Sep.start h
  refine fn_enter Try.func8 rfl Try.ntmps8 rfl ?_
  refine cd_seq ?_
  refine cd_region ?_
  refine ol_x rfl rfl (x_box rfl rfl rfl H) ?_
  clear H
  rintro v3 h1 ⟨hv3, hz00, H⟩
  obtain ⟨h1b, hh1b⟩ : ∃ b, h.size = b := ⟨_, rfl⟩
  rw [hh1b] at hv3 H
  subst hv3
  refine ol_y rfl rfl (y_assign rfl rfl) ?_
  refine ol_nil ?_
  refine thenX_n ?_
  refine cd_seq ?_
  refine cd_seq ?_
  refine cd_region ?_
  refine ol_x rfl rfl (x_call rfl go26 rfl c_first17) ?_
  rintro _ h3 ⟨rfl, hx⟩
  replace H := H.extend hx
  have hr1 := (H.ext 1 rfl).rd hr
  refine ol_y rfl rfl (y_not rfl rfl) ?_
  refine ol_nil ?_
  refine thenX_n ?_
  refine cd_false rfl rfl ?_
  refine cd_skip ?_
  refine thenX_n ?_
  refine cd_seq ?_
  refine cd_seq ?_
  refine cd_region ?_
  refine ol_y rfl rfl (y_move rfl rfl) ?_
  refine ol_y rfl rfl (y_lenV rfl Try.underlying22 rfl (by first | assumption | exact SlV.mk' _ _ _ _)) ?_
  refine ol_y rfl rfl (y_gtr rfl rfl rfl) ?_
  refine ol_nil ?_
  refine thenX_n ?_
  refine cd_cond _ rfl (fun hc1 => ?_) (fun hc1 => ?_)
  · (try replace hc1 := of_decide_eq_true hc1)
    refine cd_seq ?_
    refine cd_region ?_
    refine ol_y rfl rfl (y_assign rfl rfl) ?_
    refine ol_nil ?_
    refine thenX_n ?_
    refine cd_ret ?_
    refine thenX_r ?_
    refine ret1 Try.results8 rfl ?_
    exact ⟨rfl, H.ext 1 rfl⟩
  · (try replace hc1 := of_decide_eq_false hc1)
    refine cd_skip ?_
    refine thenX_n ?_
    refine cd_seq ?_
    refine cd_region ?_
    refine ol_y rfl rfl (y_move rfl rfl) ?_
    refine ol_x rfl rfl (x_call rfl go27 rfl (c_listNew hv hr1 (by omega))) ?_
    rintro _ h2 ⟨lb, rfl, hx2, hk2⟩
    replace H := H.extend hx2
    have hlf := hk2 _ (Kept.refl _ _)
    have hE2 := H.ext 1 rfl
    have hbx2 := H.obj 0 rfl
    clear H
    have H := Sep.start h2
    refine ol_y rfl rfl (y_move rfl rfl) ?_
    refine ol_y rfl rfl (y_extract rfl rfl rfl) ?_
    refine ol_y rfl rfl (y_extract rfl rfl rfl) ?_
    refine ol_y rfl rfl (y_assign rfl rfl) ?_
    refine ol_y rfl rfl (y_assign rfl rfl) ?_
    refine ol_nil ?_
    refine thenX_n ?_
    refine cd_seq ?_
    refine cd_region ?_
    refine ol_y rfl rfl (y_move rfl rfl) ?_
    refine ol_y rfl rfl (y_lenV rfl Try.underlying22 rfl (by first | assumption | exact SlV.mk' _ _ _ _)) ?_
    refine ol_y rfl rfl (y_addi rfl rfl rfl (in64 (by omega) (by omega))) ?_
    refine ol_y rfl rfl (y_convw rfl ⟨_, Try.underlying3⟩ Try.underlying36 rfl (show inK .u64 _ by simp only [inK]; omega)) ?_
    refine ol_y rfl rfl (y_assign rfl rfl) ?_
    refine ol_nil ?_
    refine thenX_n ?_
    refine cd_seq ?_
    refine cd_draw (none) (fun x => x = h2) [(0, 0), (1, 1), (2, 0), (3, 0), (4, 0), (5, 0), (6, 0), (7, 1), (8, 0), (9, 0), (10, 0), (11, 0), (12, 0), (13, 1), (14, 0), (15, 0), (16, 0), (17, 0), (18, 0), (19, 0), (20, 0)] mixed (by kernel_rfl) (by kernel_rfl) (by kernel_rfl) ?_ ?_
    · exact rfl
    refine hs_p rfl rfl rfl (y_indexAddrA rfl Try.underlying55 sz3 rfl rfl (by omega) (by omega)) ?_
    refine hs_y rfl rfl rfl (y_load rfl rfl (fun _ e => ldeq e (ld1 scl3 (cellH_blk (by assumption) rfl)))) ?_
    refine hs_p rfl rfl rfl (y_convi rfl ⟨_, Try.underlying3⟩ Try.underlying36 rfl) ?_
    refine hs_p rfl rfl rfl (y_move rfl rfl) ?_
    refine hs_p rfl rfl rfl (y_remi rfl rfl rfl (u64_pos a0) (by omega)) ?_
    refine hs_p rfl rfl rfl (y_convw rfl ⟨_, Try.underlying36⟩ Try.underlying3 rfl (show inK .i64 _ by have := rem_lt a0 (n := (l.length : Int) + 1) (by omega); simp only [inK]; omega)) ?_
    refine hs_p rfl rfl rfl (y_indexAddrA rfl Try.underlying55 sz3 rfl rfl (by omega) (by omega)) ?_
    refine hs_y rfl rfl rfl (y_load rfl rfl (fun _ e => ldeq e (ld1 scl3 (cellH_blk (by assumption) rfl)))) ?_
    refine hs_p rfl rfl rfl (y_convi rfl ⟨_, Try.underlying3⟩ Try.underlying36 rfl) ?_
    refine hs_p rfl rfl rfl (y_move rfl rfl) ?_
    refine hs_p rfl rfl rfl (y_remi rfl rfl rfl (u64_pos a1) (by omega)) ?_
    refine hs_p rfl rfl rfl (y_convw rfl ⟨_, Try.underlying36⟩ Try.underlying3 rfl (show inK .i64 _ by have := rem_lt a1 (n := (l.length : Int) + 1) (by omega); simp only [inK]; omega)) ?_
    refine hs_p rfl rfl rfl (y_indexAddrA rfl Try.underlying55 sz3 rfl rfl (by omega) (by omega)) ?_
    refine hs_y rfl rfl rfl (y_load rfl rfl (fun _ e => ldeq e (ld1 scl3 (cellH_blk (by assumption) rfl)))) ?_
    refine hs_p rfl rfl rfl (y_convi rfl ⟨_, Try.underlying3⟩ Try.underlying36 rfl) ?_
    refine hs_p rfl rfl rfl (y_move rfl rfl) ?_
    refine hs_p rfl rfl rfl (y_remi rfl rfl rfl (u64_pos a2) (by omega)) ?_
    refine hs_p rfl rfl rfl (y_convw rfl ⟨_, Try.underlying36⟩ Try.underlying3 rfl (show inK .i64 _ by have := rem_lt a2 (n := (l.length : Int) + 1) (by omega); simp only [inK]; omega)) ?_
    refine hs_p rfl rfl rfl (y_assign rfl rfl) ?_
    refine hs_p rfl rfl rfl (y_assign rfl rfl) ?_
    refine hs_p rfl rfl rfl (y_assign rfl rfl) ?_
    refine hs_nil ?_
    refine thenX_n ?_
    refine cd_seq ?_
    refine cd_region ?_
    refine ol_y rfl rfl (y_move rfl rfl) ?_
    refine ol_y rfl rfl (y_move rfl rfl) ?_
    have hq0 := rem_lt a0 (n := (l.length : Int) + 1) (by omega)
    have hq1 := rem_lt a1 (n := (l.length : Int) + 1) (by omega)
    have hq2 := rem_lt a2 (n := (l.length : Int) + 1) (by omega)
    obtain ⟨lo, hlo⟩ : ∃ x, min (IntKind.u64.wrap a0 % ((l.length : Int) + 1)) (IntKind.u64.wrap a2 % ((l.length : Int) + 1)) = x := ⟨_, rfl⟩
    obtain ⟨hi, hhi⟩ : ∃ x, max (IntKind.u64.wrap a0 % ((l.length : Int) + 1)) (IntKind.u64.wrap a2 % ((l.length : Int) + 1)) = x := ⟨_, rfl⟩
    obtain ⟨mi, hmi⟩ : ∃ x, max lo (min (IntKind.u64.wrap a1 % ((l.length : Int) + 1)) hi) = x := ⟨_, rfl⟩
    have hlm : lo ≤ mi := by omega
    have hmh : mi ≤ hi := by omega
    refine ol_y rfl rfl (Yl.eq (y_min rfl rfl rfl) (vint hlo)) ?_
    refine ol_y rfl rfl (y_move rfl rfl) ?_
    refine ol_y rfl rfl (y_move rfl rfl) ?_
    refine ol_y rfl rfl (Yl.eq (y_max rfl rfl rfl) (vint hhi)) ?_
    refine ol_y rfl rfl (y_assign rfl rfl) ?_
    refine ol_y rfl rfl (y_assign rfl rfl) ?_
    refine ol_nil ?_
    refine thenX_n ?_
    refine cd_seq ?_
    refine cd_region ?_
    refine ol_y rfl rfl (y_move rfl rfl) ?_
    refine ol_y rfl rfl (y_move rfl rfl) ?_
    refine ol_y rfl rfl (y_move rfl rfl) ?_
    refine ol_y rfl rfl (y_min rfl rfl rfl) ?_
    refine ol_y rfl rfl (Yl.eq (y_max rfl rfl rfl) (vint hmi)) ?_
    refine ol_y rfl rfl (y_assign rfl rfl) ?_
    refine ol_nil ?_
    refine thenX_n ?_
    refine cd_seq ?_
    refine cd_region ?_
    refine ol_x rfl rfl (x_buildSlice (cs := []) rfl Try.underlying22 info3 rfl rfl rfl rfl H) ?_
    clear H
    rintro _ h5 ⟨rfl, hzl_b, H⟩
    replace H := Sep.rowBlk (enc := eI) (xs := ([] : List Int)) eI_ok rfl (by simp [maxLen]) H
    have hv10_0 := H.rowV eI_ok 0 rfl
    have hr10_0 := H.rowR eI_ok 0 rfl
    refine ol_y rfl rfl (y_move rfl rfl) ?_
    refine ol_y rfl rfl (y_move rfl rfl) ?_
    refine ol_y rfl rfl (y_move rfl rfl) ?_
    replace H := H.front 1
    dsimp only [nthP, eraseP] at H
    refine ol_x rfl rfl (x_call rfl go29 rfl (c_Docs (h0 := h2) H hlf)) ?_
    clear H
    rintro dv1 h7 ⟨db1, dc1, H⟩
    have hd1v := H.rowV eI_ok 0 rfl
    have hd1r := H.rowR eI_ok 0 rfl
    have hd1l := docI_len l lo mi l.length
    replace H := H.front 2
    dsimp only [nthP, eraseP] at H
    refine ol_x rfl rfl (x_append (enc := eI) rfl Try.underlying22 info3 rfl (by decide) eI_ok rfl rfl hd1v hd1r rfl (by first | omega | (simp only [List.length_nil]; omega)) (by first | (simp only [maxLen]; omega) | (simp only [maxLen, List.length_nil]; omega)) H) ?_
    clear H
    rintro ov1 h8 ⟨hz_1, ob1, oc1, H⟩
    rw [List.nil_append] at H
    refine ol_y rfl rfl (y_move rfl rfl) ?_
    refine ol_y rfl rfl (y_move rfl rfl) ?_
    refine ol_y rfl rfl (y_move rfl rfl) ?_
    replace H := H.front 2
    dsimp only [nthP, eraseP] at H
    refine ol_x rfl rfl (x_call rfl go29 rfl (c_Docs (h0 := h2) H hlf)) ?_
    clear H
    rintro dv2 h10 ⟨db2, dc2, H⟩
    have hd2v := H.rowV eI_ok 0 rfl
    have hd2r := H.rowR eI_ok 0 rfl
    have hd2l := docI_len l mi hi l.length
    replace H := H.front 2
    dsimp only [nthP, eraseP] at H
    refine ol_x rfl rfl (x_append (enc := eI) rfl Try.underlying22 info3 rfl (by decide) eI_ok rfl rfl hd2v hd2r rfl (by first | omega | (simp only [List.length_nil]; omega)) (by first | (simp only [maxLen]; omega) | (simp only [maxLen, List.length_nil]; omega)) H) ?_
    clear H
    rintro ov2 h11 ⟨hz_2, ob2, oc2, H⟩
    have hE5 := H.ext 2 rfl
    have hxl : (docI l lo mi l.length ++ docI l mi hi l.length).length = (docI l lo mi l.length).length + (docI l mi hi l.length).length := List.length_append ..
    have hXX := name_ (docI l lo mi l.length ++ docI l mi hi l.length)
    cases hXX with
    | intro X hX =>
    rw [hX] at H hxl
    have hxv := H.rowV eI_ok 0 rfl
    have hxr := H.rowR eI_ok 0 rfl
    refine ol_y rfl rfl (y_assign rfl rfl) ?_
    refine ol_nil ?_
    refine thenX_n ?_
    refine cd_seq ?_
    refine cd_region ?_
    refine ol_y rfl rfl (y_move rfl rfl) ?_
    refine ol_y rfl rfl (y_move rfl rfl) ?_
    refine ol_y rfl rfl (y_move rfl rfl) ?_
    replace H := Sep.start h11
    refine ol_x rfl rfl (x_call rfl go29 rfl (c_Docs H (hlf.ext hE5))) ?_
    clear H
    rintro dv3 h13 ⟨db3, dc3, H⟩
    refine ol_y rfl rfl (y_move rfl rfl) ?_
    refine ol_y rfl rfl (y_move rfl rfl) ?_
    refine ol_y rfl rfl (y_lenV rfl Try.underlying22 rfl (by first | assumption | exact SlV.mk' _ _ _ _)) ?_
    have hd3v := H.rowV eI_ok 0 rfl
    have hd3r := H.rowR eI_ok 0 rfl
    have hd3l := docI_len l lo hi l.length
    have hE6 := hE5.trans (H.ext 1 rfl)
    replace hxr := (H.ext 1 rfl).rd hxr
    replace H := Sep.start h13
    refine ol_x rfl rfl (x_call rfl go30 rfl (c_refDocs H hxv hxr (by omega))) ?_
    clear H
    rintro rv h15 ⟨rb, rc, H⟩
    replace hd3r := (H.ext 1 rfl).rd hd3r
    have hv2 := H.rowV eI_ok 0 rfl
    have hr6 := H.rowR eI_ok 0 rfl
    refine ol_x rfl rfl (x_call rfl go28 rfl (c_Same8 hd3v hd3r hv2 hr6 (by omega))) ?_
    rintro _ _ ⟨rfl, rfl⟩
    refine ol_y rfl rfl (y_assign rfl rfl) ?_
    refine ol_nil ?_
    refine thenX_n ?_
    refine cd_ret ?_
    refine ret1 Try.results8 rfl ?_
    refine ⟨vbool (decide_eq_true ?_), hE2.trans (hE6.trans (H.ext 1 rfl))⟩
    rw [docI_parts hlm hmh, hX]


end Go.X
