/- Pairs: printed walk. -/
import Derived.Test.YtclbncbolhmolaaC14
namespace Go.X
open Go Go.Proofs
set_option linter.unusedVariables false
set_option linter.unusedSimpArgs false
attribute [local irreducible] rowP HP.obj HP.old
theorem addP_len (out : List Pr) (x : Int) : (addP out x).length ≤ out.length + 1 := by unfold addP; split <;> simp
theorem foldP_len : ∀ (s : List Int) (out : List Pr), (s.foldl addP out).length ≤ out.length + s.length
  | [], out => by simp
  | x :: s, out => by
    have h1 := foldP_len s (addP out x)
    have h2 := addP_len out x
    simp only [List.foldl_cons, List.length_cons]; omega
theorem addP_bd {out : List Pr} {x : Int} {k : Nat} (h : ∀ p ∈ out, 0 ≤ p.2 ∧ p.2 ≤ k) : ∀ p ∈ addP out x, 0 ≤ p.2 ∧ p.2 ≤ (k + 1 : Nat) := by
  intro p hp
  unfold addP at hp
  split at hp
  · rename_i hc
    have hm := List.mem_of_getElem? (gt_get (xs := out) (i := ((out.length - 1 : Nat) : Int)) (by omega) (by omega))
    have hb := h _ hm
    rcases List.mem_or_eq_of_mem_set hp with hp | rfl
    · have := h p hp; omega
    · dsimp only; omega
  · rcases List.mem_append.1 hp with hp | hp
    · have := h p hp; omega
    · rw [List.mem_singleton.1 hp]; dsimp only; omega

theorem c_Pairs {h h0 : Heap} {v : Value} {b p c : Nat} {xs : List Int} {L : List HP} (H : Sep h (HP.old h0 :: L)) (hv : SlV v b p xs.length c) (hr : Rd eI 1 h0 b p xs) (hl : xs.length ≤ 4194304) :
    FnT Try.prog 53 [v] h (fun v h' => ∃ ob oc, Sep h' (rowP ePr 2 41 v ob oc (pairsL xs) :: HP.old h0 :: L)) := by
  refine fn_enter Try.func53 rfl Try.ntmps53 rfl ?_
  refine cd_seq ?_
  refine cd_region ?_
  refine ol_y rfl rfl (y_assign rfl rfl) ?_
  refine ol_nil ?_
  refine thenX_n ?_
  refine cd_seq ?_
  refine cd_region ?_
  refine ol_y rfl rfl (y_assign rfl rfl) ?_
  refine ol_nil ?_
  refine thenX_n ?_
  refine cd_seq ?_
  refine cd_seq ?_
  refine cd_region ?_
  refine ol_y rfl rfl (y_move rfl rfl) ?_
  refine ol_x rfl rfl (x_call rfl go88 rfl (c_Sorted H hv hr hl)) ?_
  clear H
  rintro sv h2 ⟨sb, sc_, H⟩
  have hsl : (isort xs).length = xs.length := (isort_perm xs).length_eq
  have hsv := H.rowV eI_ok 0 rfl
  refine ol_y rfl rfl (y_lenV rfl Try.underlying22 rfl (by first | assumption | exact SlV.mk' _ _ _ _)) ?_
  refine ol_y rfl rfl (y_move rfl rfl) ?_
  refine ol_nil ?_
  refine thenX_n ?_
  refine cd_block ?_
  refine cd_loop (γ := Nat × Value × Nat × Nat) (fun g => [(3, g.2.1), (7, sv), (8, .int .i64 (isort xs).length), (9, .int .i64 g.1)]) (fun g h' => g.1 ≤ (isort xs).length ∧ (∀ p ∈ ((isort xs).take g.1).foldl addP [], 0 ≤ p.2 ∧ p.2 ≤ (g.1 : Int)) ∧ Sep h' (rowP ePr 2 41 g.2.1 g.2.2.1 g.2.2.2 (((isort xs).take g.1).foldl addP []) :: rowP eI 1 3 sv sb sc_ (isort xs) :: HP.old h0 :: L)) (fun g => (isort xs).length - g.1) ((0, .slice none 0 0, 0, 0)) ?_ ?_ ?_
  · (repeat (first | exact trivial | refine ⟨rfl, ?_⟩))
  · exact ⟨Nat.zero_le _, by simp, H.rowNil ePr 2 41 0⟩
  · skip
    rintro ⟨k, ov, ob, oc⟩ ρ h3 ⟨hk, hbd, H⟩
    (try dsimp only)
    dsimp only at hk hbd H
    have hst : k < (isort xs).length → ((isort xs).take (k + 1)).foldl addP [] = addP (((isort xs).take k).foldl addP []) (gt (isort xs) (k : Int)) := fun h => by rw [take_succ_gt h, List.foldl_append]; rfl
    have hol := foldP_len ((isort xs).take k) []
    rw [List.length_take] at hol
    generalize hout : ((isort xs).take k).foldl addP [] = out at *
    simp only [List.length_nil] at hol
    have hsr := H.rowR eI_ok 1 rfl
    have hov := H.rowV ePr_ok 0 rfl
    have hor := H.rowR ePr_ok 0 rfl
    refine cd_seq ?_
    refine cd_region ?_
    refine ol_y rfl rfl (y_lss rfl rfl rfl) ?_
    refine ol_nil ?_
    refine thenX_n ?_
    refine cd_seq ?_
    refine cd_cond _ rfl (fun hc0 => ?_) (fun hc0 => ?_)
    · (try replace hc0 := of_decide_eq_true hc0)
      refine cd_skip ?_
      refine thenX_n ?_
      refine cd_seq ?_
      refine cd_block ?_
      refine cd_seq ?_
      refine cd_region ?_
      refine ol_y rfl rfl (y_indexV rfl Try.underlying22 sz3 rfl (by first | assumption | exact SlV.mk' _ _ _ _) rfl (by omega) (by omega)) ?_
      refine ol_y rfl rfl (y_load rfl rfl (fun _ e => ldeq e (ld_row scl3 (by assumption) (by omega) (by omega)))) ?_
      refine ol_y rfl rfl (y_assign rfl rfl) ?_
      refine ol_nil ?_
      refine thenX_n ?_
      refine cd_seq ?_
      refine cd_region ?_
      refine ol_y rfl rfl (y_move rfl rfl) ?_
      refine ol_y rfl rfl (y_lenV rfl Try.underlying30 rfl (by first | assumption | exact SlV.mk' _ _ _ _)) ?_
      refine ol_y rfl rfl (y_gtr rfl rfl rfl) ?_
      refine ol_y rfl rfl (y_move rfl rfl) ?_
      refine ol_split (t := 16) rfl (fun hg4 => ?_) (fun hg4 => ?_)
      · (try have hg4_ := of_decide_eq_true hg4)
        refine ol_gy rfl rfl rfl rfl hg4 rfl (y_move rfl rfl) ?_
        refine ol_gy rfl rfl rfl rfl hg4 rfl (y_move rfl rfl) ?_
        refine ol_gy rfl rfl rfl rfl hg4 rfl (y_lenV rfl Try.underlying30 rfl (by first | assumption | exact SlV.mk' _ _ _ _)) ?_
        refine ol_gy rfl rfl rfl rfl hg4 rfl ((y_subi rfl rfl rfl (in64 (by omega) (by omega))).eq (vint (show _ = ((out.length - 1 : Nat) : Int) by omega))) ?_
        refine ol_gy rfl rfl rfl rfl hg4 rfl (y_indexV rfl Try.underlying30 sz41 rfl (by first | assumption | exact SlV.mk' _ _ _ _) rfl (by omega) (by omega)) ?_
        refine ol_gy rfl rfl rfl rfl hg4 rfl (y_fieldAddr rfl fo41_0 rfl) ?_
        refine ol_gy rfl rfl rfl rfl hg4 rfl (y_load rfl rfl (fun _ e => ldeq e (ld_rowf scl3 (by assumption) (by omega) (by omega) rfl))) ?_
        refine ol_gy rfl rfl rfl rfl hg4 rfl (y_move rfl rfl) ?_
        refine ol_gy rfl rfl rfl rfl hg4 rfl (y_eql rfl rfl rfl) ?_
        refine ol_y rfl rfl (y_pick_t rfl rfl hg4 rfl) ?_
        refine ol_nil ?_
        refine thenX_n ?_
        refine cd_cond _ rfl (fun hc1 => ?_) (fun hc1 => ?_)
        · (try replace hc1 := of_decide_eq_true hc1)
          have hlb := hbd _ (List.mem_of_getElem? (gt_get (xs := out) (i := ((out.length - 1 : Nat) : Int)) (by omega) (by omega)))
          refine cd_region ?_
          refine ol_y rfl rfl (y_move rfl rfl) ?_
          refine ol_y rfl rfl (y_move rfl rfl) ?_
          refine ol_y rfl rfl (y_lenV rfl Try.underlying30 rfl (by first | assumption | exact SlV.mk' _ _ _ _)) ?_
          refine ol_y rfl rfl ((y_subi rfl rfl rfl (in64 (by omega) (by omega))).eq (vint (show _ = ((out.length - 1 : Nat) : Int) by omega))) ?_
          refine ol_y rfl rfl (y_indexV rfl Try.underlying30 sz41 rfl (by first | assumption | exact SlV.mk' _ _ _ _) rfl (by omega) (by omega)) ?_
          refine ol_y rfl rfl (y_fieldAddr rfl fo41_1 rfl) ?_
          refine ol_y rfl rfl (y_load rfl rfl (fun _ e => ldeq e (ld_rowf scl3 (by assumption) (by omega) (by omega) rfl))) ?_
          refine ol_y rfl rfl (y_addi rfl rfl rfl (in64 (by omega) (by omega))) ?_
          refine ol_y rfl rfl (y_indexV rfl Try.underlying30 sz41 rfl (by first | assumption | exact SlV.mk' _ _ _ _) rfl (by omega) (by omega)) ?_
          refine ol_y rfl rfl (y_fieldAddr rfl fo41_1 rfl) ?_
          refine ol_x rfl rfl (x_setRowF (enc := ePr) (j := 1) (i := ((out.length - 1 : Nat) : Int)) (y' := ((gt out ((out.length - 1 : Nat) : Int)).1, (gt out ((out.length - 1 : Nat) : Int)).2 + 1)) rfl rfl rfl sz3 ⟨rfl, rfl⟩ ePr_ok (by omega) (by omega) (by omega) rfl H) ?_
          clear H
          rintro _ h5 ⟨rfl, hz610, H⟩
          rw [Int.toNat_natCast] at H
          refine ol_nil ?_
          refine blockX_n ?_
          refine thenX_n ?_
          refine cd_region ?_
          refine ol_y rfl rfl (y_addi rfl rfl rfl (in64 (by omega) (by omega))) ?_
          refine ol_y rfl rfl (y_move rfl rfl) ?_
          refine ol_nil ?_
          refine thenX_n ?_
          have hst := hst (by omega)
          first
            | (have e : addP out (gt (isort xs) (k : Int)) = out ++ [(gt (isort xs) (k : Int), 1)] := by unfold addP; rw [if_neg (fun hh => by first | omega | exact hc1 hh.2)]
               refine ⟨(k + 1, ov2, ob2, oc2), ⟨rfl, rfl, rfl, vint (by simp), trivial⟩, ⟨by (try dsimp only); omega, ?_, ?_⟩, by (try dsimp only); omega⟩
               · (try dsimp only)
                 rw [hst]; exact addP_bd hbd
               · (try dsimp only)
                 rw [hst, e]; exact H)
            | (have e : addP out (gt (isort xs) (k : Int)) = out.set (out.length - 1) ((gt out ((out.length - 1 : Nat) : Int)).1, (gt out ((out.length - 1 : Nat) : Int)).2 + 1) := by unfold addP; rw [if_pos ⟨by omega, hc1⟩]
               refine ⟨(k + 1, ov, ob, oc), ⟨rfl, rfl, rfl, vint (by simp), trivial⟩, ⟨by (try dsimp only); omega, ?_, ?_⟩, by (try dsimp only); omega⟩
               · (try dsimp only)
                 rw [hst]; exact addP_bd hbd
               · (try dsimp only)
                 rw [hst, e]; exact H)
        · (try replace hc1 := of_decide_eq_false hc1)
          refine cd_region ?_
          refine ol_y rfl rfl (y_move rfl rfl) ?_
          refine ol_y rfl rfl (y_move rfl rfl) ?_
          refine ol_y rfl rfl (y_build (cs := [_, _]) rfl pl41 zero41 rfl) ?_
          refine ol_x rfl rfl (x_buildSlice (cs := [_, _]) rfl Try.underlying30 info41 rfl rfl rfl rfl H) ?_
          clear H
          rintro _ h6 ⟨rfl, hz_b, H⟩
          replace H := Sep.rowBlk (enc := ePr) (xs := [(gt (isort xs) (k : Int), (1 : Int))]) ePr_ok rfl (one_maxLen _) H
          have hv7_4 := H.rowV ePr_ok 0 rfl
          have hr7_4 := H.rowR ePr_ok 0 rfl
          replace H := H.drop
          have HF := H.front 0
          dsimp only [nthP, eraseP] at HF
          refine ol_x rfl rfl (x_append (enc := ePr) rfl Try.underlying30 info41 rfl (by decide) ePr_ok rfl rfl hv7_4 hr7_4 rfl (by simp only [List.length_cons, List.length_nil, maxLen]; omega) (by simp only [List.length_cons, List.length_nil, maxLen]; omega) HF) ?_
          clear H HF hv7_4 hr7_4
          rintro ov2 h7 ⟨hz_, ob2, oc2, H⟩
          replace H := H.ins 0
          dsimp only [insP] at H
          have hov2 := H.rowV ePr_ok 0 rfl
          refine ol_y rfl rfl (y_assign rfl rfl) ?_
          refine ol_nil ?_
          refine blockX_n ?_
          refine thenX_n ?_
          refine cd_region ?_
          refine ol_y rfl rfl (y_addi rfl rfl rfl (in64 (by omega) (by omega))) ?_
          refine ol_y rfl rfl (y_move rfl rfl) ?_
          refine ol_nil ?_
          refine thenX_n ?_
          have hst := hst (by omega)
          first
            | (have e : addP out (gt (isort xs) (k : Int)) = out ++ [(gt (isort xs) (k : Int), 1)] := by unfold addP; rw [if_neg (fun hh => by first | omega | exact hc1 hh.2)]
               refine ⟨(k + 1, ov2, ob2, oc2), ⟨rfl, rfl, rfl, vint (by simp), trivial⟩, ⟨by (try dsimp only); omega, ?_, ?_⟩, by (try dsimp only); omega⟩
               · (try dsimp only)
                 rw [hst]; exact addP_bd hbd
               · (try dsimp only)
                 rw [hst, e]; exact H)
            | (have e : addP out (gt (isort xs) (k : Int)) = out.set (out.length - 1) ((gt out ((out.length - 1 : Nat) : Int)).1, (gt out ((out.length - 1 : Nat) : Int)).2 + 1) := by unfold addP; rw [if_pos ⟨by omega, hc1⟩]
               refine ⟨(k + 1, ov, ob, oc), ⟨rfl, rfl, rfl, vint (by simp), trivial⟩, ⟨by (try dsimp only); omega, ?_, ?_⟩, by (try dsimp only); omega⟩
               · (try dsimp only)
                 rw [hst]; exact addP_bd hbd
               · (try dsimp only)
                 rw [hst, e]; exact H)
      · (try have hg4_ := of_decide_eq_false hg4)
        refine ol_gn rfl rfl rfl rfl hg4 rfl ?_
        refine ol_gn rfl rfl rfl rfl hg4 rfl ?_
        refine ol_gn rfl rfl rfl rfl hg4 rfl ?_
        refine ol_gn rfl rfl rfl rfl hg4 rfl ?_
        refine ol_gn rfl rfl rfl rfl hg4 rfl ?_
        refine ol_gn rfl rfl rfl rfl hg4 rfl ?_
        refine ol_gn rfl rfl rfl rfl hg4 rfl ?_
        refine ol_gn rfl rfl rfl rfl hg4 rfl ?_
        refine ol_gn rfl rfl rfl rfl hg4 rfl ?_
        refine ol_y rfl rfl (y_pick_f rfl rfl hg4 rfl) ?_
        refine ol_nil ?_
        refine thenX_n ?_
        refine cd_false rfl rfl ?_
        refine cd_region ?_
        refine ol_y rfl rfl (y_move rfl rfl) ?_
        refine ol_y rfl rfl (y_move rfl rfl) ?_
        refine ol_y rfl rfl (y_build (cs := [_, _]) rfl pl41 zero41 rfl) ?_
        refine ol_x rfl rfl (x_buildSlice (cs := [_, _]) rfl Try.underlying30 info41 rfl rfl rfl rfl H) ?_
        clear H
        rintro _ h8 ⟨rfl, hz_b, H⟩
        replace H := Sep.rowBlk (enc := ePr) (xs := [(gt (isort xs) (k : Int), (1 : Int))]) ePr_ok rfl (one_maxLen _) H
        have hv7_4 := H.rowV ePr_ok 0 rfl
        have hr7_4 := H.rowR ePr_ok 0 rfl
        replace H := H.drop
        have HF := H.front 0
        dsimp only [nthP, eraseP] at HF
        refine ol_x rfl rfl (x_append (enc := ePr) rfl Try.underlying30 info41 rfl (by decide) ePr_ok rfl rfl hv7_4 hr7_4 rfl (by simp only [List.length_cons, List.length_nil, maxLen]; omega) (by simp only [List.length_cons, List.length_nil, maxLen]; omega) HF) ?_
        clear H HF hv7_4 hr7_4
        rintro ov2 h9 ⟨hz_, ob2, oc2, H⟩
        replace H := H.ins 0
        dsimp only [insP] at H
        have hov2 := H.rowV ePr_ok 0 rfl
        refine ol_y rfl rfl (y_assign rfl rfl) ?_
        refine ol_nil ?_
        refine blockX_n ?_
        refine thenX_n ?_
        refine cd_region ?_
        refine ol_y rfl rfl (y_addi rfl rfl rfl (in64 (by omega) (by omega))) ?_
        refine ol_y rfl rfl (y_move rfl rfl) ?_
        refine ol_nil ?_
        refine thenX_n ?_
        have hst := hst (by omega)
        first
          | (have e : addP out (gt (isort xs) (k : Int)) = out ++ [(gt (isort xs) (k : Int), 1)] := by unfold addP; rw [if_neg (fun hh => by first | omega | exact hc1 hh.2)]
             refine ⟨(k + 1, ov2, ob2, oc2), ⟨rfl, rfl, rfl, vint (by simp), trivial⟩, ⟨by (try dsimp only); omega, ?_, ?_⟩, by (try dsimp only); omega⟩
             · (try dsimp only)
               rw [hst]; exact addP_bd hbd
             · (try dsimp only)
               rw [hst, e]; exact H)
          | (have e : addP out (gt (isort xs) (k : Int)) = out.set (out.length - 1) ((gt out ((out.length - 1 : Nat) : Int)).1, (gt out ((out.length - 1 : Nat) : Int)).2 + 1) := by unfold addP; rw [if_pos ⟨by omega, hc1⟩]
             refine ⟨(k + 1, ov, ob, oc), ⟨rfl, rfl, rfl, vint (by simp), trivial⟩, ⟨by (try dsimp only); omega, ?_, ?_⟩, by (try dsimp only); omega⟩
             · (try dsimp only)
               rw [hst]; exact addP_bd hbd
             · (try dsimp only)
               rw [hst, e]; exact H)
    · (try replace hc0 := of_decide_eq_false hc0)
      refine cd_exit ?_
      refine thenX_e ?_
      refine thenX_e ?_
      refine blockX_hit ?_
      refine thenX_n ?_
      refine cd_seq ?_
      refine cd_region ?_
      refine ol_y rfl rfl (y_move rfl rfl) ?_
      refine ol_y rfl rfl (y_assign rfl rfl) ?_
      refine ol_nil ?_
      refine thenX_n ?_
      refine cd_ret ?_
      refine ret1 Try.results53 rfl ?_
      have ek : k = (isort xs).length := by omega
      rw [← hout, ek, List.take_length] at H
      have H1 := (H.front 1).drop
      dsimp only [nthP, eraseP] at H1
      exact ⟨ob, oc, H1⟩


end Go.X
