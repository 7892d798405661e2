/- docs.Back, ref08.Same: printed walks. -/
import Derived.Test.YtclbncbolhmolaaC12
import Derived.Test.YtclbncbolhmolaaX11
namespace Go.X
open Go Go.Proofs
set_option linter.unusedVariables false
set_option linter.unusedSimpArgs false
attribute [local irreducible] rowP HP.obj HP.old
/-- the last place ahead of k with a number -/
def lastIx (l : List Int) : Nat → Int → Option Nat
  | 0, _ => none
  | k + 1, d => if gt l (k : Int) = d then some k else lastIx l k d
def backF (l : List Int) (i : Nat) : Int := match lastIx l i (gt l (i : Int)) with | some j => (j : Int) | none => -1
def backI (l : List Int) (k : Nat) : List Int := (List.range l.length).map fun i => if i < k then backF l i else 0
def backL (l : List Int) : List Int := backI l l.length
theorem backI_len (l : List Int) (k : Nat) : (backI l k).length = l.length := by simp [backI]
theorem backI_zero (l : List Int) : backI l 0 = List.replicate l.length 0 := by
  apply List.ext_getElem <;> simp [backI]
theorem backI_succ {l : List Int} {k : Nat} (h : k < l.length) : (backI l k).set k (backF l k) = backI l (k + 1) := by
  apply List.ext_getElem
  · simp [backI]
  · intro i h1 h2
    simp only [List.getElem_set, backI, List.getElem_map, List.getElem_range]
    by_cases e : k = i
    · subst e; simp
    · rw [if_neg e]
      by_cases h3 : i < k
      · rw [if_pos h3, if_pos (by omega)]
      · rw [if_neg h3, if_neg (by omega)]

theorem c_Back {h h0 : Heap} {v : Value} {b p c : Nat} {xs : List Int} {L : List HP} (H : Sep h (HP.old h0 :: L)) (hv : SlV v b p xs.length c) (hr : Rd eI 1 h0 b p xs) (hl : xs.length ≤ 4194304) :
    FnT Try.prog 65 [v] h (fun v h' => ∃ ob oc, Sep h' (rowP eI 1 3 v ob oc (backL xs) :: HP.old h0 :: L)) := by
  refine fn_enter Try.func65 rfl Try.ntmps65 rfl ?_
  refine cd_seq ?_
  refine cd_region ?_
  refine ol_y rfl rfl (y_assign rfl rfl) ?_
  refine ol_nil ?_
  refine thenX_n ?_
  refine cd_seq ?_
  refine cd_region ?_
  refine ol_x rfl rfl (x_makeMap rfl H) ?_
  clear H
  rintro v3 h1 ⟨hv3, hz10, H⟩
  obtain ⟨mb, hmb⟩ : ∃ b, h.size = b := ⟨_, rfl⟩
  rw [hmb] at hv3 H
  subst hv3
  refine ol_y rfl rfl (y_assign rfl rfl) ?_
  refine ol_nil ?_
  refine thenX_n ?_
  refine cd_seq ?_
  refine cd_region ?_
  refine ol_y rfl rfl (y_move rfl rfl) ?_
  refine ol_y rfl rfl (y_lenV rfl Try.underlying22 rfl (by first | assumption | exact SlV.mk' _ _ _ _)) ?_
  refine ol_x rfl rfl (x_makeN (enc := eI) (x0 := (0 : Int)) (n := xs.length) (c := xs.length) rfl Try.underlying22 info3 rfl rfl rfl rfl (Nat.le_refl _) (by omega) (by omega) H) ?_
  clear H
  rintro ov h2 ⟨hv4, hz22, H⟩
  obtain ⟨ob, hob⟩ : ∃ b, h1.size = b := ⟨_, rfl⟩
  rw [hob] at hv4 H
  have hov := H.rowV eI_ok 0 rfl
  refine ol_y rfl rfl (y_assign rfl rfl) ?_
  refine ol_nil ?_
  refine thenX_n ?_
  refine cd_seq ?_
  refine cd_seq ?_
  refine cd_region ?_
  refine ol_y rfl rfl (y_move rfl rfl) ?_
  refine ol_y rfl rfl (y_lenV rfl Try.underlying22 rfl (by first | assumption | exact SlV.mk' _ _ _ _)) ?_
  refine ol_y rfl rfl (y_move rfl rfl) ?_
  refine ol_nil ?_
  refine thenX_n ?_
  refine cd_block ?_
  refine cd_loop (γ := Nat × List (Int × Int × Nat) × Nat) (fun g => [(3, .map (some mb)), (4, ov), (13, v), (14, .int .i64 xs.length), (15, .int .i64 (g.1 : Int))]) (fun g h' => g.1 ≤ xs.length ∧ (∀ d, val g.2.1 d = (lastIx xs g.1 d).map (fun j => (j : Int))) ∧ Sep h' (rowP eI 1 3 ov ob xs.length (backI xs g.1) :: HP.obj mb (.map (mapEs g.2.1) g.2.2) :: HP.old h0 :: L)) (fun g => xs.length - g.1) ((0, [], 0)) ?_ ?_ ?_
  · (repeat (first | exact trivial | refine ⟨rfl, ?_⟩))
  · refine ⟨Nat.zero_le _, fun d => rfl, ?_⟩
    (try dsimp only)
    rw [backI_zero]
    exact H
  · skip
    rintro ⟨k, m, mc⟩ ρ h3 ⟨hk, hm, H⟩
    (try dsimp only)
    dsimp only at hk hm H
    have hrh := (H.ext 2 rfl).rd hr
    have hmp := H.obj 1 rfl
    have hov := H.rowV eI_ok 0 rfl
    rw [backI_len] at hov
    refine cd_seq ?_
    refine cd_region ?_
    refine ol_y rfl rfl (y_lss rfl rfl rfl) ?_
    refine ol_nil ?_
    refine thenX_n ?_
    refine cd_seq ?_
    refine cd_cond _ rfl (fun hc0 => ?_) (fun hc0 => ?_)
    · (try replace hc0 := of_decide_eq_true hc0)
      refine cd_skip ?_
      refine thenX_n ?_
      refine cd_seq ?_
      refine cd_block ?_
      refine cd_seq ?_
      refine cd_region ?_
      refine ol_y rfl rfl (y_move rfl rfl) ?_
      refine ol_y rfl rfl (y_indexV rfl Try.underlying22 sz3 rfl (by first | assumption | exact SlV.mk' _ _ _ _) rfl (by omega) (by omega)) ?_
      refine ol_y rfl rfl (y_load rfl rfl (fun _ e => ldeq e (ld_row scl3 (by assumption) (by omega) (by omega)))) ?_
      refine ol_y rfl rfl (y_assign rfl rfl) ?_
      refine ol_y rfl rfl (y_assign rfl rfl) ?_
      refine ol_nil ?_
      refine thenX_n ?_
      refine cd_seq ?_
      refine cd_seq ?_
      refine cd_region ?_
      refine ol_y rfl rfl (y_move rfl rfl) ?_
      refine ol_y rfl rfl (y_move rfl rfl) ?_
      refine ol_y rfl rfl (y_lookup rfl Try.underlying144 Try.underlying3 info3 rfl rfl (fun _ e => e ▸ hmp) rfl) ?_
      refine ol_y rfl rfl (y_move rfl rfl) ?_
      refine ol_y rfl rfl (y_extract rfl rfl rfl) ?_
      refine ol_y rfl rfl (y_extract rfl rfl rfl) ?_
      refine ol_y rfl rfl (y_assign rfl rfl) ?_
      refine ol_y rfl rfl (y_assign rfl rfl) ?_
      refine ol_nil ?_
      refine thenX_n ?_
      refine cd_seq ?_
      refine cd_region ?_
      refine ol_y rfl rfl (y_move rfl rfl) ?_
      refine ol_nil ?_
      refine thenX_n ?_
      refine cd_cond _ rfl (fun hc1 => ?_) (fun hc1 => ?_)
      · (try replace hc1 := of_decide_eq_true hc1)
        have hy1 : (val m (gt xs (k : Int))).getD 0 = backF xs k := by
          rw [hm] at hc1 ⊢
          unfold backF
          cases hq : lastIx xs k (gt xs (k : Int)) with
          | none => rw [hq] at hc1; cases hc1
          | some j => rfl
        refine cd_region ?_
        refine ol_y rfl rfl (y_move rfl rfl) ?_
        refine ol_y rfl rfl (y_move rfl rfl) ?_
        refine ol_y rfl rfl (y_move rfl rfl) ?_
        refine ol_y rfl rfl (y_indexV rfl Try.underlying22 sz3 rfl (by first | assumption | exact SlV.mk' _ _ _ _) rfl (by omega) (by omega)) ?_
        refine ol_x rfl rfl (x_setRow (f := Value.int .i64) (i := (k : Int)) (y' := backF xs k) rfl rfl (vint hy1) sz3 (fun _ => ⟨rfl, rfl⟩) (by omega) (by rw [backI_len]; omega) H) ?_
        clear H
        rintro _ h4 ⟨rfl, hz84, H⟩
        refine ol_nil ?_
        refine thenX_n ?_
        refine cd_region ?_
        refine ol_y rfl rfl (y_move rfl rfl) ?_
        refine ol_y rfl rfl (y_move rfl rfl) ?_
        refine ol_y rfl rfl (y_move rfl rfl) ?_
        replace H := H.swap
        refine ol_x rfl rfl (x_mapUpdate rfl Try.underlying144 Try.underlying3 rfl rfl rfl H) ?_
        clear H
        rintro _ h5 ⟨rfl, hz103, H⟩
        refine ol_nil ?_
        refine blockX_n ?_
        refine thenX_n ?_
        refine cd_region ?_
        refine ol_y rfl rfl (y_addi rfl rfl rfl (in64 (by omega) (by omega))) ?_
        refine ol_y rfl rfl (y_move rfl rfl) ?_
        refine ol_nil ?_
        refine thenX_n ?_
        rw [Int.toNat_natCast, backI_succ (by omega)] at H
        refine ⟨(k + 1, (putM m (gt xs (k : Int)) (k : Int) mc).1, (putM m (gt xs (k : Int)) (k : Int) mc).2), ⟨rfl, rfl, rfl, rfl, vint (by simp), trivial⟩, ⟨by (try dsimp only); omega, fun d => ?_, H.swap⟩, by (try dsimp only); omega⟩
        (try dsimp only)
        rw [val_put, lastIx]
        by_cases hd : gt xs (k : Int) = d
        · rw [if_pos hd.symm, if_pos hd]; rfl
        · rw [if_neg (fun e => hd e.symm), if_neg hd]; exact hm d
      · (try replace hc1 := of_decide_eq_false hc1)
        have hy1 : (-1 : Int) = backF xs k := by
          rw [hm] at hc1
          unfold backF
          cases hq : lastIx xs k (gt xs (k : Int)) with
          | none => rfl
          | some j => rw [hq] at hc1; cases hc1
        refine cd_region ?_
        refine ol_y rfl rfl (y_move rfl rfl) ?_
        refine ol_y rfl rfl (y_move rfl rfl) ?_
        refine ol_y rfl rfl (y_indexV rfl Try.underlying22 sz3 rfl (by first | assumption | exact SlV.mk' _ _ _ _) rfl (by omega) (by omega)) ?_
        refine ol_x rfl rfl (x_setRow (f := Value.int .i64) (i := (k : Int)) (y' := backF xs k) rfl rfl (vint hy1) sz3 (fun _ => ⟨rfl, rfl⟩) (by omega) (by rw [backI_len]; omega) H) ?_
        clear H
        rintro _ h6 ⟨rfl, hz93, H⟩
        refine ol_nil ?_
        refine thenX_n ?_
        refine cd_region ?_
        refine ol_y rfl rfl (y_move rfl rfl) ?_
        refine ol_y rfl rfl (y_move rfl rfl) ?_
        refine ol_y rfl rfl (y_move rfl rfl) ?_
        replace H := H.swap
        refine ol_x rfl rfl (x_mapUpdate rfl Try.underlying144 Try.underlying3 rfl rfl rfl H) ?_
        clear H
        rintro _ h7 ⟨rfl, hz103, H⟩
        refine ol_nil ?_
        refine blockX_n ?_
        refine thenX_n ?_
        refine cd_region ?_
        refine ol_y rfl rfl (y_addi rfl rfl rfl (in64 (by omega) (by omega))) ?_
        refine ol_y rfl rfl (y_move rfl rfl) ?_
        refine ol_nil ?_
        refine thenX_n ?_
        rw [Int.toNat_natCast, backI_succ (by omega)] at H
        refine ⟨(k + 1, (putM m (gt xs (k : Int)) (k : Int) mc).1, (putM m (gt xs (k : Int)) (k : Int) mc).2), ⟨rfl, rfl, rfl, rfl, vint (by simp), trivial⟩, ⟨by (try dsimp only); omega, fun d => ?_, H.swap⟩, by (try dsimp only); omega⟩
        (try dsimp only)
        rw [val_put, lastIx]
        by_cases hd : gt xs (k : Int) = d
        · rw [if_pos hd.symm, if_pos hd]; rfl
        · rw [if_neg (fun e => hd e.symm), if_neg hd]; exact hm d
    · (try replace hc0 := of_decide_eq_false hc0)
      refine cd_exit ?_
      refine thenX_e ?_
      refine thenX_e ?_
      refine blockX_hit ?_
      refine thenX_n ?_
      refine cd_seq ?_
      refine cd_region ?_
      refine ol_y rfl rfl (y_move rfl rfl) ?_
      refine ol_y rfl rfl (y_assign rfl rfl) ?_
      refine ol_nil ?_
      refine thenX_n ?_
      refine cd_ret ?_
      refine ret1 Try.results65 rfl ?_
      have ek : k = xs.length := by omega
      subst ek
      have H1 := (H.front 1).drop
      dsimp only [nthP, eraseP] at H1
      exact ⟨ob, _, H1⟩


theorem c_Same8 {h : Heap} {v v2 : Value} {b p c b2 p2 c2 : Nat} {xs ys : List Int} (hv : SlV v b p xs.length c) (hr : Rd eI 1 h b p xs) (hv2 : SlV v2 b2 p2 ys.length c2) (hr2 : Rd eI 1 h b2 p2 ys) (hl : xs.length ≤ 9223372036854775807) :
    FnT Try.prog 28 [v, v2] h (fun v h' => v = .bool (decide (xs = ys)) ∧ h = h') := by
  refine fn_enter Try.func28 rfl Try.ntmps28 rfl ?_
  refine cd_seq ?_
  refine cd_region ?_
  refine ol_y rfl rfl (y_assign rfl rfl) ?_
  refine ol_nil ?_
  refine thenX_n ?_
  refine cd_seq ?_
  refine cd_seq ?_
  refine cd_region ?_
  refine ol_y rfl rfl (y_move rfl rfl) ?_
  refine ol_y rfl rfl (y_lenV rfl Try.underlying22 rfl (by first | assumption | exact SlV.mk' _ _ _ _)) ?_
  refine ol_y rfl rfl (y_move rfl rfl) ?_
  refine ol_y rfl rfl (y_lenV rfl Try.underlying22 rfl (by first | assumption | exact SlV.mk' _ _ _ _)) ?_
  refine ol_y rfl rfl (y_neq rfl rfl rfl) ?_
  refine ol_nil ?_
  refine thenX_n ?_
  refine cd_cond _ rfl (fun hc0 => ?_) (fun hc0 => ?_)
  · (try replace hc0 := of_decide_eq_true hc0)
    refine cd_seq ?_
    refine cd_region ?_
    refine ol_y rfl rfl (y_assign rfl rfl) ?_
    refine ol_nil ?_
    refine thenX_n ?_
    refine cd_ret ?_
    refine thenX_r ?_
    refine ret1 Try.results28 rfl ?_
    exact ⟨vbool (by symm; rw [decide_eq_false_iff_not]; intro e; apply hc0; rw [e]), rfl⟩
  · (try replace hc0 := of_decide_eq_false hc0)
    have hll : xs.length = ys.length := by omega
    refine cd_skip ?_
    refine thenX_n ?_
    refine cd_seq ?_
    refine cd_seq ?_
    refine cd_region ?_
    refine ol_y rfl rfl (y_move rfl rfl) ?_
    refine ol_y rfl rfl (y_lenV rfl Try.underlying22 rfl (by first | assumption | exact SlV.mk' _ _ _ _)) ?_
    refine ol_y rfl rfl (y_move rfl rfl) ?_
    refine ol_nil ?_
    refine thenX_n ?_
    refine cd_block ?_
    refine cd_loop (γ := Nat) (fun k => [(0, v), (1, v2), (11, v), (12, .int .i64 xs.length), (13, .int .i64 k)]) (fun k h' => h = h' ∧ k ≤ xs.length ∧ ∀ j : Nat, j < k → gt xs (j : Int) = gt ys (j : Int)) (fun k => xs.length - k) (0) ?_ ?_ ?_
    · (repeat (first | exact trivial | refine ⟨rfl, ?_⟩))
    · exact ⟨rfl, by omega, fun j hj => by omega⟩
    · skip
      rintro k ρ h1 ⟨rfl, hk, hn⟩
      (try dsimp only)
      refine cd_seq ?_
      refine cd_region ?_
      refine ol_y rfl rfl (y_lss rfl rfl rfl) ?_
      refine ol_nil ?_
      refine thenX_n ?_
      refine cd_seq ?_
      refine cd_cond _ rfl (fun hc1 => ?_) (fun hc1 => ?_)
      · (try replace hc1 := of_decide_eq_true hc1)
        refine cd_skip ?_
        refine thenX_n ?_
        refine cd_seq ?_
        refine cd_block ?_
        refine cd_seq ?_
        refine cd_region ?_
        refine ol_y rfl rfl (y_move rfl rfl) ?_
        refine ol_y rfl rfl (y_assign rfl rfl) ?_
        refine ol_nil ?_
        refine thenX_n ?_
        refine cd_seq ?_
        refine cd_draw (none) (fun x => x = h) [(0, 0), (1, 0), (2, 0), (3, 1), (4, 0), (5, 0), (6, 0), (7, 1), (8, 0)] mixed (by kernel_rfl) (by kernel_rfl) (by kernel_rfl) ?_ ?_
        · exact rfl
        refine hs_p rfl rfl rfl (y_move rfl rfl) ?_
        refine hs_p rfl rfl rfl (y_move rfl rfl) ?_
        refine hs_p rfl rfl rfl (y_indexV rfl Try.underlying22 sz3 rfl (by first | assumption | exact SlV.mk' _ _ _ _) rfl (by omega) (by omega)) ?_
        refine hs_y rfl rfl rfl (y_load rfl rfl (fun _ e => ldeq e (ld_row scl3 (by assumption) (by omega) (by omega)))) ?_
        refine hs_p rfl rfl rfl (y_move rfl rfl) ?_
        refine hs_p rfl rfl rfl (y_move rfl rfl) ?_
        refine hs_p rfl rfl rfl (y_indexV rfl Try.underlying22 sz3 rfl (by first | assumption | exact SlV.mk' _ _ _ _) rfl (by omega) (by omega)) ?_
        refine hs_y rfl rfl rfl (y_load rfl rfl (fun _ e => ldeq e (ld_row scl3 (by assumption) (by omega) (by omega)))) ?_
        refine hs_p rfl rfl rfl (y_neq rfl rfl rfl) ?_
        refine hs_nil ?_
        refine thenX_n ?_
        refine cd_cond _ rfl (fun hc2 => ?_) (fun hc2 => ?_)
        · (try replace hc2 := of_decide_eq_true hc2)
          refine cd_seq ?_
          refine cd_region ?_
          refine ol_y rfl rfl (y_assign rfl rfl) ?_
          refine ol_nil ?_
          refine thenX_n ?_
          refine cd_ret ?_
          refine blockX_r ?_
          refine thenX_r ?_
          refine thenX_r ?_
          refine blockX_r ?_
          refine thenX_r ?_
          refine ret1 Try.results28 rfl ?_
          refine ⟨vbool ?_, rfl⟩
          symm
          rw [decide_eq_false_iff_not]
          rintro rfl
          exact hc2 rfl
        · (try replace hc2 := of_decide_eq_false hc2)
          refine cd_skip ?_
          refine blockX_n ?_
          refine thenX_n ?_
          refine cd_region ?_
          refine ol_y rfl rfl (y_addi rfl rfl rfl (in64 (by omega) (by omega))) ?_
          refine ol_y rfl rfl (y_move rfl rfl) ?_
          refine ol_nil ?_
          refine thenX_n ?_
          refine ⟨k + 1, ⟨rfl, rfl, rfl, rfl, vint (by simp), trivial⟩, ⟨rfl, by omega, fun j hj => ?_⟩, by omega⟩
          rcases Nat.lt_or_ge j k with hlt | hge
          · exact hn j hlt
          · obtain rfl : j = k := by omega
            exact Classical.byContradiction hc2
      · (try replace hc1 := of_decide_eq_false hc1)
        refine cd_exit ?_
        refine thenX_e ?_
        refine thenX_e ?_
        refine blockX_hit ?_
        refine thenX_n ?_
        refine cd_seq ?_
        refine cd_region ?_
        refine ol_y rfl rfl (y_assign rfl rfl) ?_
        refine ol_nil ?_
        refine thenX_n ?_
        refine cd_ret ?_
        refine ret1 Try.results28 rfl ?_
        refine ⟨vbool ?_, rfl⟩
        symm
        rw [decide_eq_true_eq]
        apply List.ext_getElem hll
        intro i h1 h2
        have := hn i (by omega)
        simpa [gt, h1, h2] using this


end Go.X
