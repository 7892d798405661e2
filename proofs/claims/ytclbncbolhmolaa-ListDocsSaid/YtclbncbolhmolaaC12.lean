/- Right, Part: printed walks. -/
import Derived.Test.YtclbncbolhmolaaC11
import Derived.Test.YtclbncbolhmolaaM7
namespace Go.X
open Go Go.Proofs
set_option linter.unusedVariables false
set_option linter.unusedSimpArgs false
attribute [local irreducible] rowP HP.obj HP.old
def inAl (al : Int) (c : Int) : Bool := decide (0 ≤ c ∧ c < al)
def partI (xs : List Int) (a b : Int) : Nat → List Int
  | 0 => []
  | k + 1 => partI xs a b k ++ (if a ≤ (k : Int) ∧ (k : Int) < b then [gt xs (k : Int)] else [])
theorem partI_len (xs : List Int) (a b : Int) : ∀ k, (partI xs a b k).length ≤ k
  | 0 => by simp [partI]
  | k + 1 => by
    have := partI_len xs a b k
    simp only [partI, List.length_append]
    split <;> simp <;> omega

theorem c_Right {h : Heap} {v : Value} {b p c : Nat} {xs : List Int} {al : Int} (hv : SlV v b p xs.length c) (hr : Rd eI 1 h b p xs) (hl : xs.length ≤ 4194304) (ha : 0 ≤ al ∧ al ≤ 4194304) :
    FnT Try.prog 16 [v, .int .i64 al] h (fun v h' => v = .bool (xs.all (inAl al)) ∧ h = h') := by
  refine fn_enter Try.func16 rfl Try.ntmps16 rfl ?_
  refine cd_seq ?_
  refine cd_region ?_
  refine ol_y rfl rfl (y_assign rfl rfl) ?_
  refine ol_nil ?_
  refine thenX_n ?_
  refine cd_seq ?_
  refine cd_seq ?_
  refine cd_region ?_
  refine ol_y rfl rfl (y_move rfl rfl) ?_
  refine ol_y rfl rfl (y_lss rfl rfl rfl) ?_
  refine ol_y rfl rfl (y_move rfl rfl) ?_
  refine ol_split (t := 9) rfl (fun hg1 => ?_) (fun hg1 => ?_)
  · (try have hg1_ := of_decide_eq_true hg1)
    exfalso; omega
  · (try have hg1_ := of_decide_eq_false hg1)
    refine ol_gy rfl rfl rfl rfl hg1 rfl (y_move rfl rfl) ?_
    refine ol_gy rfl rfl rfl rfl hg1 rfl (y_gtr rfl rfl rfl) ?_
    refine ol_y rfl rfl (y_pick_f rfl rfl hg1 rfl) ?_
    refine ol_y rfl rfl (y_move rfl rfl) ?_
    refine ol_split (t := 13) rfl (fun hg2 => ?_) (fun hg2 => ?_)
    · (try have hg2_ := of_decide_eq_true hg2)
      exfalso; omega
    · (try have hg2_ := of_decide_eq_false hg2)
      refine ol_gy rfl rfl rfl rfl hg2 rfl (y_move rfl rfl) ?_
      refine ol_gy rfl rfl rfl rfl hg2 rfl (y_lenV rfl Try.underlying22 rfl (by first | assumption | exact SlV.mk' _ _ _ _)) ?_
      refine ol_gy rfl rfl rfl rfl hg2 rfl (y_gtr rfl rfl rfl) ?_
      refine ol_y rfl rfl (y_pick_f rfl rfl hg2 rfl) ?_
      refine ol_nil ?_
      refine thenX_n ?_
      refine cd_cond _ rfl (fun hc0 => ?_) (fun hc0 => ?_)
      · (try replace hc0 := of_decide_eq_true hc0)
        exfalso; omega
      · (try replace hc0 := of_decide_eq_false hc0)
        refine cd_skip ?_
        refine thenX_n ?_
        refine cd_seq ?_
        refine cd_seq ?_
        refine cd_region ?_
        refine ol_y rfl rfl (y_move rfl rfl) ?_
        refine ol_y rfl rfl (y_lenV rfl Try.underlying22 rfl (by first | assumption | exact SlV.mk' _ _ _ _)) ?_
        refine ol_y rfl rfl (y_move rfl rfl) ?_
        refine ol_nil ?_
        refine thenX_n ?_
        refine cd_block ?_
        refine cd_loop (γ := Nat) (fun k => [(1, .int .i64 al), (18, v), (19, .int .i64 xs.length), (20, .int .i64 k)]) (fun k h' => h = h' ∧ k ≤ xs.length ∧ ∀ j x, j < k → xs[j]? = some x → inAl al x = true) (fun k => xs.length - k) (0) ?_ ?_ ?_
        · (repeat (first | exact trivial | refine ⟨rfl, ?_⟩))
        · exact ⟨rfl, by omega, fun j x hj => by omega⟩
        · skip
          rintro k ρ h3 ⟨rfl, hk, hn⟩
          (try dsimp only)
          refine cd_seq ?_
          refine cd_region ?_
          refine ol_y rfl rfl (y_lss rfl rfl rfl) ?_
          refine ol_nil ?_
          refine thenX_n ?_
          refine cd_seq ?_
          refine cd_cond _ rfl (fun hc1 => ?_) (fun hc1 => ?_)
          · (try replace hc1 := of_decide_eq_true hc1)
            refine cd_skip ?_
            refine thenX_n ?_
            refine cd_seq ?_
            refine cd_block ?_
            refine cd_seq ?_
            refine cd_region ?_
            refine ol_y rfl rfl (y_indexV rfl Try.underlying22 sz3 rfl (by first | assumption | exact SlV.mk' _ _ _ _) rfl (by omega) (by omega)) ?_
            refine ol_y rfl rfl (y_load rfl rfl (fun _ e => ldeq e (ld_row scl3 (by assumption) (by omega) (by omega)))) ?_
            refine ol_y rfl rfl (y_assign rfl rfl) ?_
            refine ol_nil ?_
            refine thenX_n ?_
            refine cd_seq ?_
            refine cd_region ?_
            refine ol_y rfl rfl (y_move rfl rfl) ?_
            refine ol_y rfl rfl (y_lss rfl rfl rfl) ?_
            refine ol_y rfl rfl (y_move rfl rfl) ?_
            refine ol_split (t := 26) rfl (fun hg4 => ?_) (fun hg4 => ?_)
            · (try have hg4_ := of_decide_eq_true hg4)
              refine ol_gn rfl rfl rfl rfl hg4 rfl ?_
              refine ol_gn rfl rfl rfl rfl hg4 rfl ?_
              refine ol_gn rfl rfl rfl rfl hg4 rfl ?_
              refine ol_y rfl rfl (y_pick_t rfl rfl hg4 rfl) ?_
              refine ol_nil ?_
              refine thenX_n ?_
              refine cd_true rfl rfl ?_
              refine cd_seq ?_
              refine cd_region ?_
              refine ol_y rfl rfl (y_assign rfl rfl) ?_
              refine ol_nil ?_
              refine thenX_n ?_
              refine cd_ret ?_
              refine blockX_r ?_
              refine thenX_r ?_
              refine thenX_r ?_
              refine blockX_r ?_
              refine thenX_r ?_
              refine ret1 Try.results16 rfl ?_
              have hm := List.mem_of_getElem? (gt_get (xs := xs) (i := (k : Int)) (by omega) (by omega))
              refine ⟨vbool ?_, rfl⟩
              symm
              rw [List.all_eq_false]
              exact ⟨_, hm, by unfold inAl; simp; omega⟩
            · (try have hg4_ := of_decide_eq_false hg4)
              refine ol_gy rfl rfl rfl rfl hg4 rfl (y_move rfl rfl) ?_
              refine ol_gy rfl rfl rfl rfl hg4 rfl (y_move rfl rfl) ?_
              refine ol_gy rfl rfl rfl rfl hg4 rfl (y_geq rfl rfl rfl) ?_
              refine ol_y rfl rfl (y_pick_f rfl rfl hg4 rfl) ?_
              refine ol_nil ?_
              refine thenX_n ?_
              refine cd_cond _ rfl (fun hc2 => ?_) (fun hc2 => ?_)
              · (try replace hc2 := of_decide_eq_true hc2)
                refine cd_seq ?_
                refine cd_region ?_
                refine ol_y rfl rfl (y_assign rfl rfl) ?_
                refine ol_nil ?_
                refine thenX_n ?_
                refine cd_ret ?_
                refine blockX_r ?_
                refine thenX_r ?_
                refine thenX_r ?_
                refine blockX_r ?_
                refine thenX_r ?_
                refine ret1 Try.results16 rfl ?_
                have hm := List.mem_of_getElem? (gt_get (xs := xs) (i := (k : Int)) (by omega) (by omega))
                refine ⟨vbool ?_, rfl⟩
                symm
                rw [List.all_eq_false]
                exact ⟨_, hm, by unfold inAl; simp; omega⟩
              · (try replace hc2 := of_decide_eq_false hc2)
                refine cd_skip ?_
                refine blockX_n ?_
                refine thenX_n ?_
                refine cd_region ?_
                refine ol_y rfl rfl (y_addi rfl rfl rfl (in64 (by omega) (by omega))) ?_
                refine ol_y rfl rfl (y_move rfl rfl) ?_
                refine ol_nil ?_
                refine thenX_n ?_
                refine ⟨k + 1, ⟨rfl, rfl, rfl, vint (by simp), trivial⟩, ⟨rfl, by omega, fun j x hj hx => ?_⟩, by omega⟩
                rcases Nat.lt_or_ge j k with hlt | hge
                · exact hn j x hlt hx
                · obtain rfl : j = k := by omega
                  have := gt_get (xs := xs) (i := (j : Int)) (by omega) (by omega)
                  rw [Int.toNat_natCast, hx] at this
                  rw [Option.some.inj this]
                  unfold inAl
                  exact decide_eq_true (by omega)
          · (try replace hc1 := of_decide_eq_false hc1)
            refine cd_exit ?_
            refine thenX_e ?_
            refine thenX_e ?_
            refine blockX_hit ?_
            refine thenX_n ?_
            refine cd_seq ?_
            refine cd_region ?_
            refine ol_y rfl rfl (y_assign rfl rfl) ?_
            refine ol_nil ?_
            refine thenX_n ?_
            refine cd_ret ?_
            refine ret1 Try.results16 rfl ?_
            refine ⟨vbool ?_, rfl⟩
            symm
            rw [List.all_eq_true]
            intro x hx
            obtain ⟨j, hj⟩ := List.mem_iff_getElem?.1 hx
            exact hn j x (by have := (List.getElem?_eq_some_iff.1 hj).1; omega) hj


theorem c_Part {h h0 : Heap} {v : Value} {b p c : Nat} {xs : List Int} {a b_ : Int} {L : List HP} (H : Sep h (HP.old h0 :: L)) (hv : SlV v b p xs.length c) (hr : Rd eI 1 h0 b p xs) (hl : xs.length ≤ 4194304) :
    FnT Try.prog 19 [v, .int .i64 a, .int .i64 b_] h (fun v h' => ∃ ob oc, Sep h' (rowP eI 1 3 v ob oc (partI xs a b_ xs.length) :: HP.old h0 :: L)) := by
  refine fn_enter Try.func19 rfl Try.ntmps19 rfl ?_
  refine cd_seq ?_
  refine cd_region ?_
  refine ol_y rfl rfl (y_assign rfl rfl) ?_
  refine ol_nil ?_
  refine thenX_n ?_
  refine cd_seq ?_
  refine cd_region ?_
  refine ol_y rfl rfl (y_assign rfl rfl) ?_
  refine ol_nil ?_
  refine thenX_n ?_
  refine cd_seq ?_
  refine cd_seq ?_
  refine cd_region ?_
  refine ol_y rfl rfl (y_move rfl rfl) ?_
  refine ol_y rfl rfl (y_lenV rfl Try.underlying22 rfl (by first | assumption | exact SlV.mk' _ _ _ _)) ?_
  refine ol_y rfl rfl (y_move rfl rfl) ?_
  refine ol_nil ?_
  refine thenX_n ?_
  refine cd_block ?_
  refine cd_loop (γ := Nat × Value × Nat × Nat) (fun g => [(1, .int .i64 a), (2, .int .i64 b_), (7, g.2.1), (10, v), (11, .int .i64 xs.length), (12, .int .i64 g.1)]) (fun g h' => g.1 ≤ xs.length ∧ Sep h' (rowP eI 1 3 g.2.1 g.2.2.1 g.2.2.2 (partI xs a b_ g.1) :: HP.old h0 :: L)) (fun g => xs.length - g.1) ((0, .slice none 0 0, 0, 0)) ?_ ?_ ?_
  · (repeat (first | exact trivial | refine ⟨rfl, ?_⟩))
  · exact ⟨Nat.zero_le _, H.rowNil eI 1 3 0⟩
  · skip
    rintro ⟨k, ov, ob, oc⟩ ρ h1 ⟨hk, H⟩
    (try dsimp only)
    dsimp only at hk H
    have hrh := (H.ext 1 rfl).rd hr
    refine cd_seq ?_
    refine cd_region ?_
    refine ol_y rfl rfl (y_lss rfl rfl rfl) ?_
    refine ol_nil ?_
    refine thenX_n ?_
    refine cd_seq ?_
    refine cd_cond _ rfl (fun hc0 => ?_) (fun hc0 => ?_)
    · (try replace hc0 := of_decide_eq_true hc0)
      refine cd_skip ?_
      refine thenX_n ?_
      refine cd_seq ?_
      refine cd_block ?_
      refine cd_seq ?_
      refine cd_region ?_
      refine ol_y rfl rfl (y_move rfl rfl) ?_
      refine ol_y rfl rfl (y_indexV rfl Try.underlying22 sz3 rfl (by first | assumption | exact SlV.mk' _ _ _ _) rfl (by omega) (by omega)) ?_
      refine ol_y rfl rfl (y_load rfl rfl (fun _ e => ldeq e (ld_row scl3 (by assumption) (by omega) (by omega)))) ?_
      refine ol_y rfl rfl (y_assign rfl rfl) ?_
      refine ol_y rfl rfl (y_assign rfl rfl) ?_
      refine ol_nil ?_
      refine thenX_n ?_
      refine cd_seq ?_
      refine cd_region ?_
      refine ol_y rfl rfl (y_move rfl rfl) ?_
      refine ol_y rfl rfl (y_move rfl rfl) ?_
      refine ol_y rfl rfl (y_geq rfl rfl rfl) ?_
      refine ol_y rfl rfl (y_move rfl rfl) ?_
      refine ol_split (t := 20) rfl (fun hg2 => ?_) (fun hg2 => ?_)
      · (try have hg2_ := of_decide_eq_true hg2)
        refine ol_gy rfl rfl rfl rfl hg2 rfl (y_move rfl rfl) ?_
        refine ol_gy rfl rfl rfl rfl hg2 rfl (y_move rfl rfl) ?_
        refine ol_gy rfl rfl rfl rfl hg2 rfl (y_lss rfl rfl rfl) ?_
        refine ol_y rfl rfl (y_pick_t rfl rfl hg2 rfl) ?_
        refine ol_nil ?_
        refine thenX_n ?_
        refine cd_cond _ rfl (fun hc1 => ?_) (fun hc1 => ?_)
        · (try replace hc1 := of_decide_eq_true hc1)
          refine cd_region ?_
          refine ol_y rfl rfl (y_move rfl rfl) ?_
          refine ol_y rfl rfl (y_move rfl rfl) ?_
          refine ol_x rfl rfl (x_buildSlice (cs := [_]) rfl Try.underlying22 info3 rfl rfl rfl rfl H) ?_
          clear H
          rintro _ h3 ⟨rfl, hz_b, H⟩
          replace H := Sep.rowBlk (enc := eI) (xs := [(gt xs (k : Int))]) eI_ok rfl (one_maxLen _) H
          have hv6_3 := H.rowV eI_ok 0 rfl
          have hr6_3 := H.rowR eI_ok 0 rfl
          replace H := H.drop
          have HF := H.front 0
          dsimp only [nthP, eraseP] at HF
          refine ol_x rfl rfl (x_append (enc := eI) rfl Try.underlying22 info3 rfl (by decide) eI_ok rfl rfl hv6_3 hr6_3 rfl (by have := partI_len xs a b_ k; simp only [List.length_cons, List.length_nil, maxLen]; omega) (by have := partI_len xs a b_ k; simp only [List.length_cons, List.length_nil, maxLen]; omega) HF) ?_
          clear H HF hv6_3 hr6_3
          rintro ov2 h4 ⟨hz_, ob2, oc2, H⟩
          replace H := H.ins 0
          dsimp only [insP] at H
          have hov2 := H.rowV eI_ok 0 rfl
          refine ol_y rfl rfl (y_assign rfl rfl) ?_
          refine ol_nil ?_
          refine blockX_n ?_
          refine thenX_n ?_
          refine cd_region ?_
          refine ol_y rfl rfl (y_addi rfl rfl rfl (in64 (by omega) (by omega))) ?_
          refine ol_y rfl rfl (y_move rfl rfl) ?_
          refine ol_nil ?_
          refine thenX_n ?_
          first
            | (have e : partI xs a b_ (k + 1) = partI xs a b_ k ++ [gt xs (k : Int)] := by simp only [partI]; rw [if_pos (by omega)]
               refine ⟨(k + 1, ov2, ob2, oc2), ⟨rfl, rfl, rfl, rfl, rfl, vint (by simp), trivial⟩, ⟨by (try dsimp only); omega, ?_⟩, by (try dsimp only); omega⟩
               (try dsimp only)
               rw [e]; exact H)
            | (have e : partI xs a b_ (k + 1) = partI xs a b_ k := by simp only [partI]; rw [if_neg (by omega), List.append_nil]
               refine ⟨(k + 1, ov, ob, oc), ⟨rfl, rfl, rfl, rfl, rfl, vint (by simp), trivial⟩, ⟨by (try dsimp only); omega, ?_⟩, by (try dsimp only); omega⟩
               (try dsimp only)
               rw [e]; exact H)
        · (try replace hc1 := of_decide_eq_false hc1)
          refine cd_skip ?_
          refine blockX_n ?_
          refine thenX_n ?_
          refine cd_region ?_
          refine ol_y rfl rfl (y_addi rfl rfl rfl (in64 (by omega) (by omega))) ?_
          refine ol_y rfl rfl (y_move rfl rfl) ?_
          refine ol_nil ?_
          refine thenX_n ?_
          first
            | (have e : partI xs a b_ (k + 1) = partI xs a b_ k ++ [gt xs (k : Int)] := by simp only [partI]; rw [if_pos (by omega)]
               refine ⟨(k + 1, ov2, ob2, oc2), ⟨rfl, rfl, rfl, rfl, rfl, vint (by simp), trivial⟩, ⟨by (try dsimp only); omega, ?_⟩, by (try dsimp only); omega⟩
               (try dsimp only)
               rw [e]; exact H)
            | (have e : partI xs a b_ (k + 1) = partI xs a b_ k := by simp only [partI]; rw [if_neg (by omega), List.append_nil]
               refine ⟨(k + 1, ov, ob, oc), ⟨rfl, rfl, rfl, rfl, rfl, vint (by simp), trivial⟩, ⟨by (try dsimp only); omega, ?_⟩, by (try dsimp only); omega⟩
               (try dsimp only)
               rw [e]; exact H)
      · (try have hg2_ := of_decide_eq_false hg2)
        refine ol_gn rfl rfl rfl rfl hg2 rfl ?_
        refine ol_gn rfl rfl rfl rfl hg2 rfl ?_
        refine ol_gn rfl rfl rfl rfl hg2 rfl ?_
        refine ol_y rfl rfl (y_pick_f rfl rfl hg2 rfl) ?_
        refine ol_nil ?_
        refine thenX_n ?_
        refine cd_false rfl rfl ?_
        refine cd_skip ?_
        refine blockX_n ?_
        refine thenX_n ?_
        refine cd_region ?_
        refine ol_y rfl rfl (y_addi rfl rfl rfl (in64 (by omega) (by omega))) ?_
        refine ol_y rfl rfl (y_move rfl rfl) ?_
        refine ol_nil ?_
        refine thenX_n ?_
        first
          | (have e : partI xs a b_ (k + 1) = partI xs a b_ k ++ [gt xs (k : Int)] := by simp only [partI]; rw [if_pos (by omega)]
             refine ⟨(k + 1, ov2, ob2, oc2), ⟨rfl, rfl, rfl, rfl, rfl, vint (by simp), trivial⟩, ⟨by (try dsimp only); omega, ?_⟩, by (try dsimp only); omega⟩
             (try dsimp only)
             rw [e]; exact H)
          | (have e : partI xs a b_ (k + 1) = partI xs a b_ k := by simp only [partI]; rw [if_neg (by omega), List.append_nil]
             refine ⟨(k + 1, ov, ob, oc), ⟨rfl, rfl, rfl, rfl, rfl, vint (by simp), trivial⟩, ⟨by (try dsimp only); omega, ?_⟩, by (try dsimp only); omega⟩
             (try dsimp only)
             rw [e]; exact H)
    · (try replace hc0 := of_decide_eq_false hc0)
      refine cd_exit ?_
      refine thenX_e ?_
      refine thenX_e ?_
      refine blockX_hit ?_
      refine thenX_n ?_
      refine cd_seq ?_
      refine cd_region ?_
      refine ol_y rfl rfl (y_move rfl rfl) ?_
      refine ol_y rfl rfl (y_assign rfl rfl) ?_
      refine ol_nil ?_
      refine thenX_n ?_
      refine cd_ret ?_
      refine ret1 Try.results19 rfl ?_
      have ek : k = xs.length := by omega
      subst ek
      exact ⟨ob, oc, H⟩


end Go.X
