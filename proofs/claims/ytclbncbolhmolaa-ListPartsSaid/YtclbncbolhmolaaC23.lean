/- ref17.Docs: printed walk. -/
import Derived.Test.YtclbncbolhmolaaC22
import Derived.Test.YtclbncbolhmolaaC16
namespace Go.X
open Go Go.Proofs
set_option linter.unusedVariables false
set_option linter.unusedSimpArgs false
attribute [local irreducible] rowP HP.obj HP.old
def docStep (out : List Int) (x : Int) : List Int := if (out.dropWhile fun y => decide (y < x)).head? = some x then out else insW (fun y => decide (y < x)) x out
def docI (xs : List Int) (a b : Int) : Nat → List Int
  | 0 => []
  | k + 1 => if a ≤ (k : Int) ∧ (k : Int) < b then docStep (docI xs a b k) (gt xs (k : Int)) else docI xs a b k
theorem docStep_len (out : List Int) (x : Int) : (docStep out x).length ≤ out.length + 1 := by
  unfold docStep; split
  · omega
  · rw [(insW_perm _ _ _).length_eq]; simp
theorem docI_len (xs : List Int) (a b : Int) : ∀ k, (docI xs a b k).length ≤ k
  | 0 => by simp [docI]
  | k + 1 => by
    have h1 := docI_len xs a b k
    have h2 := docStep_len (docI xs a b k) (gt xs (k : Int))
    simp only [docI]; split <;> omega
theorem docStep_sorted {out : List Int} {x : Int} (h : out.Pairwise (· < ·)) : (docStep out x).Pairwise (· < ·) ∧ ∀ y, y ∈ docStep out x ↔ y = x ∨ y ∈ out := by
  have hhd : ∀ y, (out.dropWhile fun y => decide (y < x)).head? = some y → y ∈ out ∧ x ≤ y := fun y hy => by
    have hm : y ∈ out.dropWhile fun y => decide (y < x) := List.mem_of_mem_head? hy
    refine ⟨(List.dropWhile_sublist _).subset hm, ?_⟩
    have := List.head?_dropWhile_not (fun y => decide (y < x)) out
    rw [hy] at this
    simp at this
    omega
  unfold docStep
  split
  · rename_i hc
    have hx := (hhd x hc).1
    exact ⟨h, fun y => ⟨fun h => .inr h, fun h => h.elim (fun e => by rw [e]; exact hx) id⟩⟩
  · rename_i hc
    refine ⟨insW_sorted (r := (· < ·)) (fun h1 h2 => by omega) (fun y _ hy => by simpa using hy) (fun y hy hy2 => ?_) h, fun y => insW_mem⟩
    -- no like number stands in the list
    simp only [decide_eq_false_iff_not] at hy2
    rcases Int.lt_or_le x y with h1 | h1
    · exact h1
    · exfalso
      obtain rfl : y = x := by omega
      apply hc
      have hs : y ∈ out.dropWhile fun z => decide (z < y) := by
        have := List.takeWhile_append_dropWhile (p := fun z => decide (z < y)) (l := out)
        rw [← this] at hy
        rcases List.mem_append.1 hy with h2 | h2
        · have := takeWhile_mem h2; simp at this
        · exact h2
      cases hd : out.dropWhile fun z => decide (z < y) with
      | nil => rw [hd] at hs; cases hs
      | cons z l =>
        rw [hd] at hs
        have hz := (hhd z (by rw [hd]; rfl)).2
        have hp : (z :: l).Pairwise (· < ·) := by rw [← hd]; exact h.sublist (List.dropWhile_sublist _)
        rcases List.mem_cons.1 hs with rfl | h3
        · rfl
        · have := (List.pairwise_cons.1 hp).1 _ h3; omega
theorem docI_of (xs : List Int) (a b : Int) : ∀ k, (docI xs a b k).Pairwise (· < ·) ∧ ∀ y, y ∈ docI xs a b k ↔ ∃ i : Nat, i < k ∧ a ≤ (i : Int) ∧ (i : Int) < b ∧ gt xs (i : Int) = y
  | 0 => ⟨.nil, fun y => by simp [docI]⟩
  | k + 1 => by
    obtain ⟨h1, h2⟩ := docI_of xs a b k
    simp only [docI]
    split
    · rename_i hc
      obtain ⟨h3, h4⟩ := docStep_sorted (x := gt xs (k : Int)) h1
      refine ⟨h3, fun y => ?_⟩
      rw [h4, h2]
      constructor
      · rintro (rfl | ⟨i, h5, h6⟩)
        · exact ⟨k, by omega, hc.1, hc.2, rfl⟩
        · exact ⟨i, by omega, h6⟩
      · rintro ⟨i, h5, h6⟩
        rcases Nat.lt_or_ge i k with h7 | h7
        · exact .inr ⟨i, h7, h6⟩
        · obtain rfl : i = k := by omega
          exact .inl h6.2.2.symm
    · rename_i hc
      refine ⟨h1, fun y => ?_⟩
      rw [h2]
      constructor
      · rintro ⟨i, h5, h6⟩; exact ⟨i, by omega, h6⟩
      · rintro ⟨i, h5, h6⟩
        refine ⟨i, ?_, h6⟩
        rcases Nat.lt_or_ge i k with h7 | h7
        · exact h7
        · obtain rfl : i = k := by omega
          exact absurd ⟨h6.1, h6.2.1⟩ hc

theorem c_refDocs {h h0 : Heap} {v : Value} {b p c : Nat} {xs : List Int} {a b_ : Int} {L : List HP} (H : Sep h (HP.old h0 :: L)) (hv : SlV v b p xs.length c) (hr : Rd eI 1 h0 b p xs) (hl : xs.length ≤ 4194304) :
    FnT Try.prog 30 [v, .int .i64 a, .int .i64 b_] h (fun v h' => ∃ ob oc, Sep h' (rowP eI 1 3 v ob oc (docI xs a b_ xs.length) :: HP.old h0 :: L)) := by
  refine fn_enter Try.func30 rfl Try.ntmps30 rfl ?_
  refine cd_seq ?_
  refine cd_region ?_
  refine ol_y rfl rfl (y_assign rfl rfl) ?_
  refine ol_nil ?_
  refine thenX_n ?_
  refine cd_seq ?_
  refine cd_region ?_
  refine ol_y rfl rfl (y_assign rfl rfl) ?_
  refine ol_nil ?_
  refine thenX_n ?_
  refine cd_seq ?_
  refine cd_seq ?_
  refine cd_region ?_
  refine ol_y rfl rfl (y_move rfl rfl) ?_
  refine ol_y rfl rfl (y_lenV rfl Try.underlying22 rfl (by first | assumption | exact SlV.mk' _ _ _ _)) ?_
  refine ol_y rfl rfl (y_move rfl rfl) ?_
  refine ol_nil ?_
  refine thenX_n ?_
  refine cd_block ?_
  refine cd_loop (γ := Nat × Value × Nat × Nat) (fun g => [(1, .int .i64 a), (2, .int .i64 b_), (7, g.2.1), (12, v), (13, .int .i64 xs.length), (14, .int .i64 (g.1 : Int))]) (fun g h' => g.1 ≤ xs.length ∧ Sep h' (rowP eI 1 3 g.2.1 g.2.2.1 g.2.2.2 (docI xs a b_ g.1) :: HP.old h0 :: L)) (fun g => xs.length - g.1) ((0, .slice none 0 0, 0, 0)) ?_ ?_ ?_
  · (repeat (first | exact trivial | refine ⟨rfl, ?_⟩))
  · exact ⟨Nat.zero_le _, H.rowNil eI 1 3 0⟩
  · skip
    rintro ⟨k, ov, ob, oc⟩ ρ h1 ⟨hk, H⟩
    (try dsimp only)
    dsimp only at hk H
    have hrh := (H.ext 1 rfl).rd hr
    have hol := docI_len xs a b_ k
    have hst : docI xs a b_ (k + 1) = if a ≤ (k : Int) ∧ (k : Int) < b_ then docStep (docI xs a b_ k) (gt xs (k : Int)) else docI xs a b_ k := rfl
    generalize hout : docI xs a b_ k = out at *
    have hov := H.rowV eI_ok 0 rfl
    have hor := H.rowR eI_ok 0 rfl
    refine cd_seq ?_
    refine cd_region ?_
    refine ol_y rfl rfl (y_lss rfl rfl rfl) ?_
    refine ol_nil ?_
    refine thenX_n ?_
    refine cd_seq ?_
    refine cd_cond _ rfl (fun hc0 => ?_) (fun hc0 => ?_)
    · (try replace hc0 := of_decide_eq_true hc0)
      refine cd_skip ?_
      refine thenX_n ?_
      refine cd_seq ?_
      refine cd_block ?_
      refine cd_seq ?_
      refine cd_region ?_
      refine ol_y rfl rfl (y_move rfl rfl) ?_
      refine ol_y rfl rfl (y_indexV rfl Try.underlying22 sz3 rfl (by first | assumption | exact SlV.mk' _ _ _ _) rfl (by omega) (by omega)) ?_
      refine ol_y rfl rfl (y_load rfl rfl (fun _ e => ldeq e (ld_row scl3 (by assumption) (by omega) (by omega)))) ?_
      refine ol_y rfl rfl (y_assign rfl rfl) ?_
      refine ol_y rfl rfl (y_assign rfl rfl) ?_
      refine ol_nil ?_
      refine thenX_n ?_
      refine cd_seq ?_
      refine cd_seq ?_
      refine cd_region ?_
      refine ol_y rfl rfl (y_move rfl rfl) ?_
      refine ol_y rfl rfl (y_move rfl rfl) ?_
      refine ol_y rfl rfl (y_lss rfl rfl rfl) ?_
      refine ol_y rfl rfl (y_move rfl rfl) ?_
      refine ol_split (t := 22) rfl (fun hg2 => ?_) (fun hg2 => ?_)
      · (try have hg2_ := of_decide_eq_true hg2)
        refine ol_gn rfl rfl rfl rfl hg2 rfl ?_
        refine ol_gn rfl rfl rfl rfl hg2 rfl ?_
        refine ol_gn rfl rfl rfl rfl hg2 rfl ?_
        refine ol_y rfl rfl (y_pick_t rfl rfl hg2 rfl) ?_
        refine ol_nil ?_
        refine thenX_n ?_
        refine cd_true rfl rfl ?_
        refine cd_exit ?_
        refine thenX_e ?_
        refine blockX_hit ?_
        refine thenX_n ?_
        refine cd_region ?_
        refine ol_y rfl rfl (y_addi rfl rfl rfl (in64 (by omega) (by omega))) ?_
        refine ol_y rfl rfl (y_move rfl rfl) ?_
        refine ol_nil ?_
        refine thenX_n ?_
        first
          | (exfalso; omega)
          | (have e : docI xs a b_ (k + 1) = out := by rw [hst, if_neg (by omega)]
             refine ⟨(k + 1, ov, ob, oc), ⟨rfl, rfl, rfl, rfl, rfl, vint (by simp), trivial⟩, ⟨by (try dsimp only); omega, ?_⟩, by (try dsimp only); omega⟩
             (try dsimp only)
             rw [e]; exact H)
          | (have hw := while_at (fun y => decide (y < gt xs (k : Int))) out at_ (by omega) (fun j y hj hy => hn j y hj hy) hx
             have e : docI xs a b_ (k + 1) = out := by
               rw [hst, if_pos (by omega)]
               unfold docStep
               rw [hw.2, List.head?_drop, if_pos]
               have := gt_get (xs := out) (i := (at_ : Int)) (by omega) (by omega)
               rw [Int.toNat_natCast] at this
               rw [this, hc3]
             refine ⟨(k + 1, ov, ob, oc), ⟨rfl, rfl, rfl, rfl, rfl, vint (by simp), trivial⟩, ⟨by (try dsimp only); omega, ?_⟩, by (try dsimp only); omega⟩
             (try dsimp only)
             rw [e]; exact H)
          | (rw [Int.toNat_natCast] at H
             have hia : i = at_ := by omega
             subst hia
             rw [last_set hi2] at H
             have hw := while_at (fun y => decide (y < gt xs (k : Int))) out i (by omega) (fun j y hj hy => hn j y hj hy) hx
             have e : docI xs a b_ (k + 1) = insW (fun y => decide (y < gt xs (k : Int))) (gt xs (k : Int)) out := by
               rw [hst, if_pos (by omega)]
               unfold docStep
               rw [hw.2, List.head?_drop, if_neg]
               intro hh
               have h1 := (List.getElem?_eq_some_iff.1 hh).1
               have := gt_get (xs := out) (i := (i : Int)) (by omega) (by omega)
               rw [Int.toNat_natCast, hh] at this
               have := Option.some.inj this
               first
                 | exact hc3 this.symm
                 | omega
             refine ⟨(k + 1, ov2, ob2, oc2), ⟨rfl, rfl, rfl, rfl, rfl, vint (by simp), trivial⟩, ⟨by (try dsimp only); omega, ?_⟩, by (try dsimp only); omega⟩
             (try dsimp only)
             rw [e]
             unfold insW
             rw [hw.1, hw.2]
             exact H)
      · (try have hg2_ := of_decide_eq_false hg2)
        refine ol_gy rfl rfl rfl rfl hg2 rfl (y_move rfl rfl) ?_
        refine ol_gy rfl rfl rfl rfl hg2 rfl (y_move rfl rfl) ?_
        refine ol_gy rfl rfl rfl rfl hg2 rfl (y_geq rfl rfl rfl) ?_
        refine ol_y rfl rfl (y_pick_f rfl rfl hg2 rfl) ?_
        refine ol_nil ?_
        refine thenX_n ?_
        refine cd_cond _ rfl (fun hc1 => ?_) (fun hc1 => ?_)
        · (try replace hc1 := of_decide_eq_true hc1)
          refine cd_exit ?_
          refine thenX_e ?_
          refine blockX_hit ?_
          refine thenX_n ?_
          refine cd_region ?_
          refine ol_y rfl rfl (y_addi rfl rfl rfl (in64 (by omega) (by omega))) ?_
          refine ol_y rfl rfl (y_move rfl rfl) ?_
          refine ol_nil ?_
          refine thenX_n ?_
          first
            | (exfalso; omega)
            | (have e : docI xs a b_ (k + 1) = out := by rw [hst, if_neg (by omega)]
               refine ⟨(k + 1, ov, ob, oc), ⟨rfl, rfl, rfl, rfl, rfl, vint (by simp), trivial⟩, ⟨by (try dsimp only); omega, ?_⟩, by (try dsimp only); omega⟩
               (try dsimp only)
               rw [e]; exact H)
            | (have hw := while_at (fun y => decide (y < gt xs (k : Int))) out at_ (by omega) (fun j y hj hy => hn j y hj hy) hx
               have e : docI xs a b_ (k + 1) = out := by
                 rw [hst, if_pos (by omega)]
                 unfold docStep
                 rw [hw.2, List.head?_drop, if_pos]
                 have := gt_get (xs := out) (i := (at_ : Int)) (by omega) (by omega)
                 rw [Int.toNat_natCast] at this
                 rw [this, hc3]
               refine ⟨(k + 1, ov, ob, oc), ⟨rfl, rfl, rfl, rfl, rfl, vint (by simp), trivial⟩, ⟨by (try dsimp only); omega, ?_⟩, by (try dsimp only); omega⟩
               (try dsimp only)
               rw [e]; exact H)
            | (rw [Int.toNat_natCast] at H
               have hia : i = at_ := by omega
               subst hia
               rw [last_set hi2] at H
               have hw := while_at (fun y => decide (y < gt xs (k : Int))) out i (by omega) (fun j y hj hy => hn j y hj hy) hx
               have e : docI xs a b_ (k + 1) = insW (fun y => decide (y < gt xs (k : Int))) (gt xs (k : Int)) out := by
                 rw [hst, if_pos (by omega)]
                 unfold docStep
                 rw [hw.2, List.head?_drop, if_neg]
                 intro hh
                 have h1 := (List.getElem?_eq_some_iff.1 hh).1
                 have := gt_get (xs := out) (i := (i : Int)) (by omega) (by omega)
                 rw [Int.toNat_natCast, hh] at this
                 have := Option.some.inj this
                 first
                   | exact hc3 this.symm
                   | omega
               refine ⟨(k + 1, ov2, ob2, oc2), ⟨rfl, rfl, rfl, rfl, rfl, vint (by simp), trivial⟩, ⟨by (try dsimp only); omega, ?_⟩, by (try dsimp only); omega⟩
               (try dsimp only)
               rw [e]
               unfold insW
               rw [hw.1, hw.2]
               exact H)
        · (try replace hc1 := of_decide_eq_false hc1)
          refine cd_skip ?_
          refine thenX_n ?_
          refine cd_seq ?_
          refine cd_region ?_
          refine ol_y rfl rfl (y_assign rfl rfl) ?_
          refine ol_nil ?_
          refine thenX_n ?_
          refine cd_seq ?_
          refine cd_block ?_
          refine cd_loop (γ := Nat) (fun q => [(1, .int .i64 a), (2, .int .i64 b_), (7, ov), (9, .int .i64 (gt xs (k : Int))), (10, .int .i64 q), (12, v), (13, .int .i64 xs.length), (14, .int .i64 (k : Int))]) (fun q h' => h1 = h' ∧ q ≤ out.length ∧ ∀ j y, j < q → out[j]? = some y → decide (y < (gt xs (k : Int))) = true) (fun q => out.length - q) (0) ?_ ?_ ?_
          · (repeat (first | exact trivial | refine ⟨rfl, ?_⟩))
          · exact ⟨rfl, Nat.zero_le _, fun j y hj => by omega⟩
          · skip
            rintro at_ ρ h3 ⟨rfl, ha, hn⟩
            (try dsimp only)
            refine cd_seq ?_
            refine cd_seq ?_
            refine cd_region ?_
            refine ol_y rfl rfl (y_move rfl rfl) ?_
            refine ol_y rfl rfl (y_move rfl rfl) ?_
            refine ol_y rfl rfl (y_lenV rfl Try.underlying22 rfl (by first | assumption | exact SlV.mk' _ _ _ _)) ?_
            refine ol_y rfl rfl (y_lss rfl rfl rfl) ?_
            refine ol_y rfl rfl (y_move rfl rfl) ?_
            refine ol_split (t := 31) rfl (fun hg4 => ?_) (fun hg4 => ?_)
            · (try have hg4_ := of_decide_eq_true hg4)
              refine ol_gy rfl rfl rfl rfl hg4 rfl (y_move rfl rfl) ?_
              refine ol_gy rfl rfl rfl rfl hg4 rfl (y_move rfl rfl) ?_
              refine ol_gy rfl rfl rfl rfl hg4 rfl (y_indexV rfl Try.underlying22 sz3 rfl (by first | assumption | exact SlV.mk' _ _ _ _) rfl (by omega) (by omega)) ?_
              refine ol_gy rfl rfl rfl rfl hg4 rfl (y_load rfl rfl (fun _ e => ldeq e (ld_row scl3 (by assumption) (by omega) (by omega)))) ?_
              refine ol_gy rfl rfl rfl rfl hg4 rfl (y_move rfl rfl) ?_
              refine ol_gy rfl rfl rfl rfl hg4 rfl (y_lss rfl rfl rfl) ?_
              refine ol_y rfl rfl (y_pick_t rfl rfl hg4 rfl) ?_
              refine ol_nil ?_
              refine thenX_n ?_
              refine cd_cond _ rfl (fun hc2 => ?_) (fun hc2 => ?_)
              · (try replace hc2 := of_decide_eq_true hc2)
                refine cd_skip ?_
                refine thenX_n ?_
                refine cd_block ?_
                refine cd_region ?_
                refine ol_y rfl rfl (y_move rfl rfl) ?_
                refine ol_y rfl rfl (y_addi rfl rfl rfl (in64 (by omega) (by omega))) ?_
                refine ol_y rfl rfl (y_assign rfl rfl) ?_
                refine ol_nil ?_
                refine blockX_n ?_
                refine thenX_n ?_
                refine ⟨at_ + 1, ⟨rfl, rfl, rfl, rfl, vint (by simp), rfl, rfl, rfl, trivial⟩, ⟨rfl, by omega, fun j y hj hy => ?_⟩, by omega⟩
                rcases Nat.lt_or_ge j at_ with hlt | hge
                · exact hn j y hlt hy
                · obtain rfl : j = at_ := by omega
                  have := gt_get (xs := out) (i := (j : Int)) (by omega) (by omega)
                  rw [Int.toNat_natCast, hy] at this
                  rw [Option.some.inj this]
                  exact decide_eq_true hc2
              · (try replace hc2 := of_decide_eq_false hc2)
                have hx : ∀ y, out[at_]? = some y → decide (y < gt xs (k : Int)) = false := fun y hy => by
                  have := gt_get (xs := out) (i := (at_ : Int)) (by omega) (by omega)
                  rw [Int.toNat_natCast, hy] at this
                  rw [Option.some.inj this]
                  exact decide_eq_false hc2
                refine cd_exit ?_
                refine thenX_e ?_
                refine thenX_e ?_
                refine blockX_hit ?_
                refine thenX_n ?_
                refine cd_seq ?_
                refine cd_seq ?_
                refine cd_region ?_
                refine ol_y rfl rfl (y_move rfl rfl) ?_
                refine ol_y rfl rfl (y_move rfl rfl) ?_
                refine ol_y rfl rfl (y_lenV rfl Try.underlying22 rfl (by first | assumption | exact SlV.mk' _ _ _ _)) ?_
                refine ol_y rfl rfl (y_lss rfl rfl rfl) ?_
                refine ol_y rfl rfl (y_move rfl rfl) ?_
                refine ol_split (t := 45) rfl (fun hg5 => ?_) (fun hg5 => ?_)
                · (try have hg5_ := of_decide_eq_true hg5)
                  refine ol_gy rfl rfl rfl rfl hg5 rfl (y_move rfl rfl) ?_
                  refine ol_gy rfl rfl rfl rfl hg5 rfl (y_move rfl rfl) ?_
                  refine ol_gy rfl rfl rfl rfl hg5 rfl (y_indexV rfl Try.underlying22 sz3 rfl (by first | assumption | exact SlV.mk' _ _ _ _) rfl (by omega) (by omega)) ?_
                  refine ol_gy rfl rfl rfl rfl hg5 rfl (y_load rfl rfl (fun _ e => ldeq e (ld_row scl3 (by assumption) (by omega) (by omega)))) ?_
                  refine ol_gy rfl rfl rfl rfl hg5 rfl (y_move rfl rfl) ?_
                  refine ol_gy rfl rfl rfl rfl hg5 rfl (y_eql rfl rfl rfl) ?_
                  refine ol_y rfl rfl (y_pick_t rfl rfl hg5 rfl) ?_
                  refine ol_nil ?_
                  refine thenX_n ?_
                  refine cd_cond _ rfl (fun hc3 => ?_) (fun hc3 => ?_)
                  · (try replace hc3 := of_decide_eq_true hc3)
                    refine cd_exit ?_
                    refine thenX_e ?_
                    refine blockX_hit ?_
                    refine thenX_n ?_
                    refine cd_region ?_
                    refine ol_y rfl rfl (y_addi rfl rfl rfl (in64 (by omega) (by omega))) ?_
                    refine ol_y rfl rfl (y_move rfl rfl) ?_
                    refine ol_nil ?_
                    refine thenX_n ?_
                    first
                      | (exfalso; omega)
                      | (have e : docI xs a b_ (k + 1) = out := by rw [hst, if_neg (by omega)]
                         refine ⟨(k + 1, ov, ob, oc), ⟨rfl, rfl, rfl, rfl, rfl, vint (by simp), trivial⟩, ⟨by (try dsimp only); omega, ?_⟩, by (try dsimp only); omega⟩
                         (try dsimp only)
                         rw [e]; exact H)
                      | (have hw := while_at (fun y => decide (y < gt xs (k : Int))) out at_ (by omega) (fun j y hj hy => hn j y hj hy) hx
                         have e : docI xs a b_ (k + 1) = out := by
                           rw [hst, if_pos (by omega)]
                           unfold docStep
                           rw [hw.2, List.head?_drop, if_pos]
                           have := gt_get (xs := out) (i := (at_ : Int)) (by omega) (by omega)
                           rw [Int.toNat_natCast] at this
                           rw [this, hc3]
                         refine ⟨(k + 1, ov, ob, oc), ⟨rfl, rfl, rfl, rfl, rfl, vint (by simp), trivial⟩, ⟨by (try dsimp only); omega, ?_⟩, by (try dsimp only); omega⟩
                         (try dsimp only)
                         rw [e]; exact H)
                      | (rw [Int.toNat_natCast] at H
                         have hia : i = at_ := by omega
                         subst hia
                         rw [last_set hi2] at H
                         have hw := while_at (fun y => decide (y < gt xs (k : Int))) out i (by omega) (fun j y hj hy => hn j y hj hy) hx
                         have e : docI xs a b_ (k + 1) = insW (fun y => decide (y < gt xs (k : Int))) (gt xs (k : Int)) out := by
                           rw [hst, if_pos (by omega)]
                           unfold docStep
                           rw [hw.2, List.head?_drop, if_neg]
                           intro hh
                           have h1 := (List.getElem?_eq_some_iff.1 hh).1
                           have := gt_get (xs := out) (i := (i : Int)) (by omega) (by omega)
                           rw [Int.toNat_natCast, hh] at this
                           have := Option.some.inj this
                           first
                             | exact hc3 this.symm
                             | omega
                         refine ⟨(k + 1, ov2, ob2, oc2), ⟨rfl, rfl, rfl, rfl, rfl, vint (by simp), trivial⟩, ⟨by (try dsimp only); omega, ?_⟩, by (try dsimp only); omega⟩
                         (try dsimp only)
                         rw [e]
                         unfold insW
                         rw [hw.1, hw.2]
                         exact H)
                  · (try replace hc3 := of_decide_eq_false hc3)
                    refine cd_skip ?_
                    refine thenX_n ?_
                    refine cd_seq ?_
                    refine cd_region ?_
                    refine ol_y rfl rfl (y_move rfl rfl) ?_
                    refine ol_x rfl rfl (x_buildSlice (cs := [_]) rfl Try.underlying22 info3 rfl rfl rfl rfl H) ?_
                    clear H
                    rintro _ h6 ⟨rfl, hz_b, H⟩
                    replace H := Sep.rowBlk (enc := eI) (xs := [(0 : Int)]) eI_ok rfl (one_maxLen _) H
                    have hv10_2 := H.rowV eI_ok 0 rfl
                    have hr10_2 := H.rowR eI_ok 0 rfl
                    replace H := H.drop
                    have HF := H.front 0
                    dsimp only [nthP, eraseP] at HF
                    refine ol_x rfl rfl (x_append (enc := eI) rfl Try.underlying22 info3 rfl (by decide) eI_ok rfl rfl hv10_2 hr10_2 rfl (by simp only [List.length_cons, List.length_nil, maxLen]; omega) (by simp only [List.length_cons, List.length_nil, maxLen]; omega) HF) ?_
                    clear H HF hv10_2 hr10_2
                    rintro ov2 h7 ⟨hz_, ob2, oc2, H⟩
                    replace H := H.ins 0
                    dsimp only [insP] at H
                    have hov2 := H.rowV eI_ok 0 rfl
                    refine ol_y rfl rfl (y_assign rfl rfl) ?_
                    have hl2 : (out ++ [(0 : Int)]).length = out.length + 1 := by simp
                    refine ol_nil ?_
                    refine thenX_n ?_
                    refine cd_seq ?_
                    refine cd_seq ?_
                    refine cd_region ?_
                    refine ol_y rfl rfl (y_move rfl rfl) ?_
                    refine ol_y rfl rfl (y_lenV rfl Try.underlying22 rfl (by first | assumption | exact SlV.mk' _ _ _ _)) ?_
                    refine ol_y rfl rfl ((y_subi rfl rfl rfl (in64 (by omega) (by omega))).eq (vint (show _ = ((out.length : Nat) : Int) by simp))) ?_
                    refine ol_y rfl rfl (y_assign rfl rfl) ?_
                    refine ol_nil ?_
                    refine thenX_n ?_
                    refine cd_block ?_
                    refine cd_loop (γ := Nat × Int) (fun g => [(1, .int .i64 a), (2, .int .i64 b_), (7, ov2), (9, .int .i64 (gt xs (k : Int))), (10, .int .i64 at_), (11, .int .i64 (g.1 : Int)), (12, v), (13, .int .i64 xs.length), (14, .int .i64 (k : Int))]) (fun g h' => at_ ≤ g.1 ∧ g.1 ≤ out.length ∧ Sep h' (rowP eI 1 3 ov2 ob2 oc2 (out.take g.1 ++ g.2 :: out.drop g.1) :: HP.old h0 :: L)) (fun g => g.1) ((out.length, 0)) ?_ ?_ ?_
                    · (repeat (first | exact trivial | refine ⟨rfl, ?_⟩))
                    · refine ⟨ha, Nat.le_refl _, ?_⟩
                      (try dsimp only)
                      rw [List.take_length, List.drop_length]
                      exact H
                    · skip
                      rintro ⟨i, w⟩ ρ h8 ⟨hai, hi2, H⟩
                      (try dsimp only)
                      dsimp only at hai hi2 H
                      have hlen : (out.take i ++ w :: out.drop i).length = out.length + 1 := by simp; omega
                      have hov2 := H.rowV eI_ok 0 rfl
                      have hor2 := H.rowR eI_ok 0 rfl
                      refine cd_seq ?_
                      refine cd_seq ?_
                      refine cd_region ?_
                      refine ol_y rfl rfl (y_move rfl rfl) ?_
                      refine ol_y rfl rfl (y_move rfl rfl) ?_
                      refine ol_y rfl rfl (y_gtr rfl rfl rfl) ?_
                      refine ol_nil ?_
                      refine thenX_n ?_
                      refine cd_cond _ rfl (fun hc4 => ?_) (fun hc4 => ?_)
                      · (try replace hc4 := of_decide_eq_true hc4)
                        refine cd_skip ?_
                        refine thenX_n ?_
                        refine cd_seq ?_
                        refine cd_block ?_
                        refine cd_region ?_
                        refine ol_y rfl rfl (y_move rfl rfl) ?_
                        refine ol_y rfl rfl (y_move rfl rfl) ?_
                        refine ol_y rfl rfl (y_move rfl rfl) ?_
                        refine ol_y rfl rfl (y_move rfl rfl) ?_
                        refine ol_y rfl rfl ((y_subi rfl rfl rfl (in64 (by omega) (by omega))).eq (vint (show _ = ((i - 1 : Nat) : Int) by omega))) ?_
                        refine ol_y rfl rfl (y_indexV rfl Try.underlying22 sz3 rfl (by first | assumption | exact SlV.mk' _ _ _ _) rfl (by omega) (by omega)) ?_
                        refine ol_y rfl rfl (y_load rfl rfl (fun _ e => ldeq e (ld_row scl3 (by assumption) (by omega) (by omega)))) ?_
                        refine ol_y rfl rfl (y_indexV rfl Try.underlying22 sz3 rfl (by first | assumption | exact SlV.mk' _ _ _ _) rfl (by omega) (by omega)) ?_
                        refine ol_x rfl rfl (x_setRow (f := Value.int .i64) (i := (i : Int)) rfl rfl rfl sz3 (fun _ => ⟨rfl, rfl⟩) (by omega) (by omega) H) ?_
                        clear H
                        rintro _ h9 ⟨rfl, hz148, H⟩
                        refine ol_nil ?_
                        refine blockX_n ?_
                        refine thenX_n ?_
                        refine cd_region ?_
                        refine ol_y rfl rfl (y_move rfl rfl) ?_
                        refine ol_y rfl rfl ((y_subi rfl rfl rfl (in64 (by omega) (by omega))).eq (vint (show _ = ((i - 1 : Nat) : Int) by omega))) ?_
                        refine ol_y rfl rfl (y_assign rfl rfl) ?_
                        refine ol_nil ?_
                        refine thenX_n ?_
                        rw [Int.toNat_natCast, shift_set (by omega) hi2] at H
                        exact ⟨(i - 1, gt out ((i - 1 : Nat) : Int)), ⟨rfl, rfl, rfl, rfl, rfl, rfl, rfl, rfl, rfl, trivial⟩, ⟨by (try dsimp only); omega, by (try dsimp only); omega, H⟩, by (try dsimp only); omega⟩
                      · (try replace hc4 := of_decide_eq_false hc4)
                        refine cd_exit ?_
                        refine thenX_e ?_
                        refine thenX_e ?_
                        refine blockX_hit ?_
                        refine thenX_n ?_
                        refine cd_region ?_
                        refine ol_y rfl rfl (y_move rfl rfl) ?_
                        refine ol_y rfl rfl (y_move rfl rfl) ?_
                        refine ol_y rfl rfl (y_move rfl rfl) ?_
                        refine ol_y rfl rfl (y_indexV rfl Try.underlying22 sz3 rfl (by first | assumption | exact SlV.mk' _ _ _ _) rfl (by omega) (by omega)) ?_
                        refine ol_x rfl rfl (x_setRow (f := Value.int .i64) (i := (at_ : Int)) rfl rfl rfl sz3 (fun _ => ⟨rfl, rfl⟩) (by omega) (by omega) H) ?_
                        clear H
                        rintro _ h10 ⟨rfl, hz154, H⟩
                        refine ol_nil ?_
                        refine blockX_n ?_
                        refine thenX_n ?_
                        refine cd_region ?_
                        refine ol_y rfl rfl (y_addi rfl rfl rfl (in64 (by omega) (by omega))) ?_
                        refine ol_y rfl rfl (y_move rfl rfl) ?_
                        refine ol_nil ?_
                        refine thenX_n ?_
                        first
                          | (exfalso; omega)
                          | (have e : docI xs a b_ (k + 1) = out := by rw [hst, if_neg (by omega)]
                             refine ⟨(k + 1, ov, ob, oc), ⟨rfl, rfl, rfl, rfl, rfl, vint (by simp), trivial⟩, ⟨by (try dsimp only); omega, ?_⟩, by (try dsimp only); omega⟩
                             (try dsimp only)
                             rw [e]; exact H)
                          | (have hw := while_at (fun y => decide (y < gt xs (k : Int))) out at_ (by omega) (fun j y hj hy => hn j y hj hy) hx
                             have e : docI xs a b_ (k + 1) = out := by
                               rw [hst, if_pos (by omega)]
                               unfold docStep
                               rw [hw.2, List.head?_drop, if_pos]
                               have := gt_get (xs := out) (i := (at_ : Int)) (by omega) (by omega)
                               rw [Int.toNat_natCast] at this
                               rw [this, hc3]
                             refine ⟨(k + 1, ov, ob, oc), ⟨rfl, rfl, rfl, rfl, rfl, vint (by simp), trivial⟩, ⟨by (try dsimp only); omega, ?_⟩, by (try dsimp only); omega⟩
                             (try dsimp only)
                             rw [e]; exact H)
                          | (rw [Int.toNat_natCast] at H
                             have hia : i = at_ := by omega
                             subst hia
                             rw [last_set hi2] at H
                             have hw := while_at (fun y => decide (y < gt xs (k : Int))) out i (by omega) (fun j y hj hy => hn j y hj hy) hx
                             have e : docI xs a b_ (k + 1) = insW (fun y => decide (y < gt xs (k : Int))) (gt xs (k : Int)) out := by
                               rw [hst, if_pos (by omega)]
                               unfold docStep
                               rw [hw.2, List.head?_drop, if_neg]
                               intro hh
                               have h1 := (List.getElem?_eq_some_iff.1 hh).1
                               have := gt_get (xs := out) (i := (i : Int)) (by omega) (by omega)
                               rw [Int.toNat_natCast, hh] at this
                               have := Option.some.inj this
                               first
                                 | exact hc3 this.symm
                                 | omega
                             refine ⟨(k + 1, ov2, ob2, oc2), ⟨rfl, rfl, rfl, rfl, rfl, vint (by simp), trivial⟩, ⟨by (try dsimp only); omega, ?_⟩, by (try dsimp only); omega⟩
                             (try dsimp only)
                             rw [e]
                             unfold insW
                             rw [hw.1, hw.2]
                             exact H)
                · (try have hg5_ := of_decide_eq_false hg5)
                  refine ol_gn rfl rfl rfl rfl hg5 rfl ?_
                  refine ol_gn rfl rfl rfl rfl hg5 rfl ?_
                  refine ol_gn rfl rfl rfl rfl hg5 rfl ?_
                  refine ol_gn rfl rfl rfl rfl hg5 rfl ?_
                  refine ol_gn rfl rfl rfl rfl hg5 rfl ?_
                  refine ol_gn rfl rfl rfl rfl hg5 rfl ?_
                  refine ol_y rfl rfl (y_pick_f rfl rfl hg5 rfl) ?_
                  refine ol_nil ?_
                  refine thenX_n ?_
                  refine cd_false rfl rfl ?_
                  refine cd_skip ?_
                  refine thenX_n ?_
                  refine cd_seq ?_
                  refine cd_region ?_
                  refine ol_y rfl rfl (y_move rfl rfl) ?_
                  refine ol_x rfl rfl (x_buildSlice (cs := [_]) rfl Try.underlying22 info3 rfl rfl rfl rfl H) ?_
                  clear H
                  rintro _ h11 ⟨rfl, hz_b, H⟩
                  replace H := Sep.rowBlk (enc := eI) (xs := [(0 : Int)]) eI_ok rfl (one_maxLen _) H
                  have hv10_2 := H.rowV eI_ok 0 rfl
                  have hr10_2 := H.rowR eI_ok 0 rfl
                  replace H := H.drop
                  have HF := H.front 0
                  dsimp only [nthP, eraseP] at HF
                  refine ol_x rfl rfl (x_append (enc := eI) rfl Try.underlying22 info3 rfl (by decide) eI_ok rfl rfl hv10_2 hr10_2 rfl (by simp only [List.length_cons, List.length_nil, maxLen]; omega) (by simp only [List.length_cons, List.length_nil, maxLen]; omega) HF) ?_
                  clear H HF hv10_2 hr10_2
                  rintro ov2 h12 ⟨hz_, ob2, oc2, H⟩
                  replace H := H.ins 0
                  dsimp only [insP] at H
                  have hov2 := H.rowV eI_ok 0 rfl
                  refine ol_y rfl rfl (y_assign rfl rfl) ?_
                  have hl2 : (out ++ [(0 : Int)]).length = out.length + 1 := by simp
                  refine ol_nil ?_
                  refine thenX_n ?_
                  refine cd_seq ?_
                  refine cd_seq ?_
                  refine cd_region ?_
                  refine ol_y rfl rfl (y_move rfl rfl) ?_
                  refine ol_y rfl rfl (y_lenV rfl Try.underlying22 rfl (by first | assumption | exact SlV.mk' _ _ _ _)) ?_
                  refine ol_y rfl rfl ((y_subi rfl rfl rfl (in64 (by omega) (by omega))).eq (vint (show _ = ((out.length : Nat) : Int) by simp))) ?_
                  refine ol_y rfl rfl (y_assign rfl rfl) ?_
                  refine ol_nil ?_
                  refine thenX_n ?_
                  refine cd_block ?_
                  refine cd_loop (γ := Nat × Int) (fun g => [(1, .int .i64 a), (2, .int .i64 b_), (7, ov2), (9, .int .i64 (gt xs (k : Int))), (10, .int .i64 at_), (11, .int .i64 (g.1 : Int)), (12, v), (13, .int .i64 xs.length), (14, .int .i64 (k : Int))]) (fun g h' => at_ ≤ g.1 ∧ g.1 ≤ out.length ∧ Sep h' (rowP eI 1 3 ov2 ob2 oc2 (out.take g.1 ++ g.2 :: out.drop g.1) :: HP.old h0 :: L)) (fun g => g.1) ((out.length, 0)) ?_ ?_ ?_
                  · (repeat (first | exact trivial | refine ⟨rfl, ?_⟩))
                  · refine ⟨ha, Nat.le_refl _, ?_⟩
                    (try dsimp only)
                    rw [List.take_length, List.drop_length]
                    exact H
                  · skip
                    rintro ⟨i, w⟩ ρ h13 ⟨hai, hi2, H⟩
                    (try dsimp only)
                    dsimp only at hai hi2 H
                    have hlen : (out.take i ++ w :: out.drop i).length = out.length + 1 := by simp; omega
                    have hov2 := H.rowV eI_ok 0 rfl
                    have hor2 := H.rowR eI_ok 0 rfl
                    refine cd_seq ?_
                    refine cd_seq ?_
                    refine cd_region ?_
                    refine ol_y rfl rfl (y_move rfl rfl) ?_
                    refine ol_y rfl rfl (y_move rfl rfl) ?_
                    refine ol_y rfl rfl (y_gtr rfl rfl rfl) ?_
                    refine ol_nil ?_
                    refine thenX_n ?_
                    refine cd_cond _ rfl (fun hc4 => ?_) (fun hc4 => ?_)
                    · (try replace hc4 := of_decide_eq_true hc4)
                      refine cd_skip ?_
                      refine thenX_n ?_
                      refine cd_seq ?_
                      refine cd_block ?_
                      refine cd_region ?_
                      refine ol_y rfl rfl (y_move rfl rfl) ?_
                      refine ol_y rfl rfl (y_move rfl rfl) ?_
                      refine ol_y rfl rfl (y_move rfl rfl) ?_
                      refine ol_y rfl rfl (y_move rfl rfl) ?_
                      refine ol_y rfl rfl ((y_subi rfl rfl rfl (in64 (by omega) (by omega))).eq (vint (show _ = ((i - 1 : Nat) : Int) by omega))) ?_
                      refine ol_y rfl rfl (y_indexV rfl Try.underlying22 sz3 rfl (by first | assumption | exact SlV.mk' _ _ _ _) rfl (by omega) (by omega)) ?_
                      refine ol_y rfl rfl (y_load rfl rfl (fun _ e => ldeq e (ld_row scl3 (by assumption) (by omega) (by omega)))) ?_
                      refine ol_y rfl rfl (y_indexV rfl Try.underlying22 sz3 rfl (by first | assumption | exact SlV.mk' _ _ _ _) rfl (by omega) (by omega)) ?_
                      refine ol_x rfl rfl (x_setRow (f := Value.int .i64) (i := (i : Int)) rfl rfl rfl sz3 (fun _ => ⟨rfl, rfl⟩) (by omega) (by omega) H) ?_
                      clear H
                      rintro _ h14 ⟨rfl, hz148, H⟩
                      refine ol_nil ?_
                      refine blockX_n ?_
                      refine thenX_n ?_
                      refine cd_region ?_
                      refine ol_y rfl rfl (y_move rfl rfl) ?_
                      refine ol_y rfl rfl ((y_subi rfl rfl rfl (in64 (by omega) (by omega))).eq (vint (show _ = ((i - 1 : Nat) : Int) by omega))) ?_
                      refine ol_y rfl rfl (y_assign rfl rfl) ?_
                      refine ol_nil ?_
                      refine thenX_n ?_
                      rw [Int.toNat_natCast, shift_set (by omega) hi2] at H
                      exact ⟨(i - 1, gt out ((i - 1 : Nat) : Int)), ⟨rfl, rfl, rfl, rfl, rfl, rfl, rfl, rfl, rfl, trivial⟩, ⟨by (try dsimp only); omega, by (try dsimp only); omega, H⟩, by (try dsimp only); omega⟩
                    · (try replace hc4 := of_decide_eq_false hc4)
                      refine cd_exit ?_
                      refine thenX_e ?_
                      refine thenX_e ?_
                      refine blockX_hit ?_
                      refine thenX_n ?_
                      refine cd_region ?_
                      refine ol_y rfl rfl (y_move rfl rfl) ?_
                      refine ol_y rfl rfl (y_move rfl rfl) ?_
                      refine ol_y rfl rfl (y_move rfl rfl) ?_
                      refine ol_y rfl rfl (y_indexV rfl Try.underlying22 sz3 rfl (by first | assumption | exact SlV.mk' _ _ _ _) rfl (by omega) (by omega)) ?_
                      refine ol_x rfl rfl (x_setRow (f := Value.int .i64) (i := (at_ : Int)) rfl rfl rfl sz3 (fun _ => ⟨rfl, rfl⟩) (by omega) (by omega) H) ?_
                      clear H
                      rintro _ h15 ⟨rfl, hz154, H⟩
                      refine ol_nil ?_
                      refine blockX_n ?_
                      refine thenX_n ?_
                      refine cd_region ?_
                      refine ol_y rfl rfl (y_addi rfl rfl rfl (in64 (by omega) (by omega))) ?_
                      refine ol_y rfl rfl (y_move rfl rfl) ?_
                      refine ol_nil ?_
                      refine thenX_n ?_
                      first
                        | (exfalso; omega)
                        | (have e : docI xs a b_ (k + 1) = out := by rw [hst, if_neg (by omega)]
                           refine ⟨(k + 1, ov, ob, oc), ⟨rfl, rfl, rfl, rfl, rfl, vint (by simp), trivial⟩, ⟨by (try dsimp only); omega, ?_⟩, by (try dsimp only); omega⟩
                           (try dsimp only)
                           rw [e]; exact H)
                        | (have hw := while_at (fun y => decide (y < gt xs (k : Int))) out at_ (by omega) (fun j y hj hy => hn j y hj hy) hx
                           have e : docI xs a b_ (k + 1) = out := by
                             rw [hst, if_pos (by omega)]
                             unfold docStep
                             rw [hw.2, List.head?_drop, if_pos]
                             have := gt_get (xs := out) (i := (at_ : Int)) (by omega) (by omega)
                             rw [Int.toNat_natCast] at this
                             rw [this, hc3]
                           refine ⟨(k + 1, ov, ob, oc), ⟨rfl, rfl, rfl, rfl, rfl, vint (by simp), trivial⟩, ⟨by (try dsimp only); omega, ?_⟩, by (try dsimp only); omega⟩
                           (try dsimp only)
                           rw [e]; exact H)
                        | (rw [Int.toNat_natCast] at H
                           have hia : i = at_ := by omega
                           subst hia
                           rw [last_set hi2] at H
                           have hw := while_at (fun y => decide (y < gt xs (k : Int))) out i (by omega) (fun j y hj hy => hn j y hj hy) hx
                           have e : docI xs a b_ (k + 1) = insW (fun y => decide (y < gt xs (k : Int))) (gt xs (k : Int)) out := by
                             rw [hst, if_pos (by omega)]
                             unfold docStep
                             rw [hw.2, List.head?_drop, if_neg]
                             intro hh
                             have h1 := (List.getElem?_eq_some_iff.1 hh).1
                             have := gt_get (xs := out) (i := (i : Int)) (by omega) (by omega)
                             rw [Int.toNat_natCast, hh] at this
                             have := Option.some.inj this
                             first
                               | exact hc3 this.symm
                               | omega
                           refine ⟨(k + 1, ov2, ob2, oc2), ⟨rfl, rfl, rfl, rfl, rfl, vint (by simp), trivial⟩, ⟨by (try dsimp only); omega, ?_⟩, by (try dsimp only); omega⟩
                           (try dsimp only)
                           rw [e]
                           unfold insW
                           rw [hw.1, hw.2]
                           exact H)
            · (try have hg4_ := of_decide_eq_false hg4)
              have hx : ∀ y, out[at_]? = some y → decide (y < gt xs (k : Int)) = false := fun y hy => by have := (List.getElem?_eq_some_iff.1 hy).1; omega
              refine ol_gn rfl rfl rfl rfl hg4 rfl ?_
              refine ol_gn rfl rfl rfl rfl hg4 rfl ?_
              refine ol_gn rfl rfl rfl rfl hg4 rfl ?_
              refine ol_gn rfl rfl rfl rfl hg4 rfl ?_
              refine ol_gn rfl rfl rfl rfl hg4 rfl ?_
              refine ol_gn rfl rfl rfl rfl hg4 rfl ?_
              refine ol_y rfl rfl (y_pick_f rfl rfl hg4 rfl) ?_
              refine ol_nil ?_
              refine thenX_n ?_
              refine cd_false rfl rfl ?_
              refine cd_exit ?_
              refine thenX_e ?_
              refine thenX_e ?_
              refine blockX_hit ?_
              refine thenX_n ?_
              refine cd_seq ?_
              refine cd_seq ?_
              refine cd_region ?_
              refine ol_y rfl rfl (y_move rfl rfl) ?_
              refine ol_y rfl rfl (y_move rfl rfl) ?_
              refine ol_y rfl rfl (y_lenV rfl Try.underlying22 rfl (by first | assumption | exact SlV.mk' _ _ _ _)) ?_
              refine ol_y rfl rfl (y_lss rfl rfl rfl) ?_
              refine ol_y rfl rfl (y_move rfl rfl) ?_
              refine ol_split (t := 45) rfl (fun hg16 => ?_) (fun hg16 => ?_)
              · (try have hg16_ := of_decide_eq_true hg16)
                refine ol_gy rfl rfl rfl rfl hg16 rfl (y_move rfl rfl) ?_
                refine ol_gy rfl rfl rfl rfl hg16 rfl (y_move rfl rfl) ?_
                refine ol_gy rfl rfl rfl rfl hg16 rfl (y_indexV rfl Try.underlying22 sz3 rfl (by first | assumption | exact SlV.mk' _ _ _ _) rfl (by omega) (by omega)) ?_
                refine ol_gy rfl rfl rfl rfl hg16 rfl (y_load rfl rfl (fun _ e => ldeq e (ld_row scl3 (by assumption) (by omega) (by omega)))) ?_
                refine ol_gy rfl rfl rfl rfl hg16 rfl (y_move rfl rfl) ?_
                refine ol_gy rfl rfl rfl rfl hg16 rfl (y_eql rfl rfl rfl) ?_
                refine ol_y rfl rfl (y_pick_t rfl rfl hg16 rfl) ?_
                refine ol_nil ?_
                refine thenX_n ?_
                refine cd_cond _ rfl (fun hc3 => ?_) (fun hc3 => ?_)
                · (try replace hc3 := of_decide_eq_true hc3)
                  refine cd_exit ?_
                  refine thenX_e ?_
                  refine blockX_hit ?_
                  refine thenX_n ?_
                  refine cd_region ?_
                  refine ol_y rfl rfl (y_addi rfl rfl rfl (in64 (by omega) (by omega))) ?_
                  refine ol_y rfl rfl (y_move rfl rfl) ?_
                  refine ol_nil ?_
                  refine thenX_n ?_
                  first
                    | (exfalso; omega)
                    | (have e : docI xs a b_ (k + 1) = out := by rw [hst, if_neg (by omega)]
                       refine ⟨(k + 1, ov, ob, oc), ⟨rfl, rfl, rfl, rfl, rfl, vint (by simp), trivial⟩, ⟨by (try dsimp only); omega, ?_⟩, by (try dsimp only); omega⟩
                       (try dsimp only)
                       rw [e]; exact H)
                    | (have hw := while_at (fun y => decide (y < gt xs (k : Int))) out at_ (by omega) (fun j y hj hy => hn j y hj hy) hx
                       have e : docI xs a b_ (k + 1) = out := by
                         rw [hst, if_pos (by omega)]
                         unfold docStep
                         rw [hw.2, List.head?_drop, if_pos]
                         have := gt_get (xs := out) (i := (at_ : Int)) (by omega) (by omega)
                         rw [Int.toNat_natCast] at this
                         rw [this, hc3]
                       refine ⟨(k + 1, ov, ob, oc), ⟨rfl, rfl, rfl, rfl, rfl, vint (by simp), trivial⟩, ⟨by (try dsimp only); omega, ?_⟩, by (try dsimp only); omega⟩
                       (try dsimp only)
                       rw [e]; exact H)
                    | (rw [Int.toNat_natCast] at H
                       have hia : i = at_ := by omega
                       subst hia
                       rw [last_set hi2] at H
                       have hw := while_at (fun y => decide (y < gt xs (k : Int))) out i (by omega) (fun j y hj hy => hn j y hj hy) hx
                       have e : docI xs a b_ (k + 1) = insW (fun y => decide (y < gt xs (k : Int))) (gt xs (k : Int)) out := by
                         rw [hst, if_pos (by omega)]
                         unfold docStep
                         rw [hw.2, List.head?_drop, if_neg]
                         intro hh
                         have h1 := (List.getElem?_eq_some_iff.1 hh).1
                         have := gt_get (xs := out) (i := (i : Int)) (by omega) (by omega)
                         rw [Int.toNat_natCast, hh] at this
                         have := Option.some.inj this
                         first
                           | exact hc3 this.symm
                           | omega
                       refine ⟨(k + 1, ov2, ob2, oc2), ⟨rfl, rfl, rfl, rfl, rfl, vint (by simp), trivial⟩, ⟨by (try dsimp only); omega, ?_⟩, by (try dsimp only); omega⟩
                       (try dsimp only)
                       rw [e]
                       unfold insW
                       rw [hw.1, hw.2]
                       exact H)
                · (try replace hc3 := of_decide_eq_false hc3)
                  refine cd_skip ?_
                  refine thenX_n ?_
                  refine cd_seq ?_
                  refine cd_region ?_
                  refine ol_y rfl rfl (y_move rfl rfl) ?_
                  refine ol_x rfl rfl (x_buildSlice (cs := [_]) rfl Try.underlying22 info3 rfl rfl rfl rfl H) ?_
                  clear H
                  rintro _ h17 ⟨rfl, hz_b, H⟩
                  replace H := Sep.rowBlk (enc := eI) (xs := [(0 : Int)]) eI_ok rfl (one_maxLen _) H
                  have hv10_2 := H.rowV eI_ok 0 rfl
                  have hr10_2 := H.rowR eI_ok 0 rfl
                  replace H := H.drop
                  have HF := H.front 0
                  dsimp only [nthP, eraseP] at HF
                  refine ol_x rfl rfl (x_append (enc := eI) rfl Try.underlying22 info3 rfl (by decide) eI_ok rfl rfl hv10_2 hr10_2 rfl (by simp only [List.length_cons, List.length_nil, maxLen]; omega) (by simp only [List.length_cons, List.length_nil, maxLen]; omega) HF) ?_
                  clear H HF hv10_2 hr10_2
                  rintro ov2 h18 ⟨hz_, ob2, oc2, H⟩
                  replace H := H.ins 0
                  dsimp only [insP] at H
                  have hov2 := H.rowV eI_ok 0 rfl
                  refine ol_y rfl rfl (y_assign rfl rfl) ?_
                  have hl2 : (out ++ [(0 : Int)]).length = out.length + 1 := by simp
                  refine ol_nil ?_
                  refine thenX_n ?_
                  refine cd_seq ?_
                  refine cd_seq ?_
                  refine cd_region ?_
                  refine ol_y rfl rfl (y_move rfl rfl) ?_
                  refine ol_y rfl rfl (y_lenV rfl Try.underlying22 rfl (by first | assumption | exact SlV.mk' _ _ _ _)) ?_
                  refine ol_y rfl rfl ((y_subi rfl rfl rfl (in64 (by omega) (by omega))).eq (vint (show _ = ((out.length : Nat) : Int) by simp))) ?_
                  refine ol_y rfl rfl (y_assign rfl rfl) ?_
                  refine ol_nil ?_
                  refine thenX_n ?_
                  refine cd_block ?_
                  refine cd_loop (γ := Nat × Int) (fun g => [(1, .int .i64 a), (2, .int .i64 b_), (7, ov2), (9, .int .i64 (gt xs (k : Int))), (10, .int .i64 at_), (11, .int .i64 (g.1 : Int)), (12, v), (13, .int .i64 xs.length), (14, .int .i64 (k : Int))]) (fun g h' => at_ ≤ g.1 ∧ g.1 ≤ out.length ∧ Sep h' (rowP eI 1 3 ov2 ob2 oc2 (out.take g.1 ++ g.2 :: out.drop g.1) :: HP.old h0 :: L)) (fun g => g.1) ((out.length, 0)) ?_ ?_ ?_
                  · (repeat (first | exact trivial | refine ⟨rfl, ?_⟩))
                  · refine ⟨ha, Nat.le_refl _, ?_⟩
                    (try dsimp only)
                    rw [List.take_length, List.drop_length]
                    exact H
                  · skip
                    rintro ⟨i, w⟩ ρ h19 ⟨hai, hi2, H⟩
                    (try dsimp only)
                    dsimp only at hai hi2 H
                    have hlen : (out.take i ++ w :: out.drop i).length = out.length + 1 := by simp; omega
                    have hov2 := H.rowV eI_ok 0 rfl
                    have hor2 := H.rowR eI_ok 0 rfl
                    refine cd_seq ?_
                    refine cd_seq ?_
                    refine cd_region ?_
                    refine ol_y rfl rfl (y_move rfl rfl) ?_
                    refine ol_y rfl rfl (y_move rfl rfl) ?_
                    refine ol_y rfl rfl (y_gtr rfl rfl rfl) ?_
                    refine ol_nil ?_
                    refine thenX_n ?_
                    refine cd_cond _ rfl (fun hc4 => ?_) (fun hc4 => ?_)
                    · (try replace hc4 := of_decide_eq_true hc4)
                      refine cd_skip ?_
                      refine thenX_n ?_
                      refine cd_seq ?_
                      refine cd_block ?_
                      refine cd_region ?_
                      refine ol_y rfl rfl (y_move rfl rfl) ?_
                      refine ol_y rfl rfl (y_move rfl rfl) ?_
                      refine ol_y rfl rfl (y_move rfl rfl) ?_
                      refine ol_y rfl rfl (y_move rfl rfl) ?_
                      refine ol_y rfl rfl ((y_subi rfl rfl rfl (in64 (by omega) (by omega))).eq (vint (show _ = ((i - 1 : Nat) : Int) by omega))) ?_
                      refine ol_y rfl rfl (y_indexV rfl Try.underlying22 sz3 rfl (by first | assumption | exact SlV.mk' _ _ _ _) rfl (by omega) (by omega)) ?_
                      refine ol_y rfl rfl (y_load rfl rfl (fun _ e => ldeq e (ld_row scl3 (by assumption) (by omega) (by omega)))) ?_
                      refine ol_y rfl rfl (y_indexV rfl Try.underlying22 sz3 rfl (by first | assumption | exact SlV.mk' _ _ _ _) rfl (by omega) (by omega)) ?_
                      refine ol_x rfl rfl (x_setRow (f := Value.int .i64) (i := (i : Int)) rfl rfl rfl sz3 (fun _ => ⟨rfl, rfl⟩) (by omega) (by omega) H) ?_
                      clear H
                      rintro _ h20 ⟨rfl, hz148, H⟩
                      refine ol_nil ?_
                      refine blockX_n ?_
                      refine thenX_n ?_
                      refine cd_region ?_
                      refine ol_y rfl rfl (y_move rfl rfl) ?_
                      refine ol_y rfl rfl ((y_subi rfl rfl rfl (in64 (by omega) (by omega))).eq (vint (show _ = ((i - 1 : Nat) : Int) by omega))) ?_
                      refine ol_y rfl rfl (y_assign rfl rfl) ?_
                      refine ol_nil ?_
                      refine thenX_n ?_
                      rw [Int.toNat_natCast, shift_set (by omega) hi2] at H
                      exact ⟨(i - 1, gt out ((i - 1 : Nat) : Int)), ⟨rfl, rfl, rfl, rfl, rfl, rfl, rfl, rfl, rfl, trivial⟩, ⟨by (try dsimp only); omega, by (try dsimp only); omega, H⟩, by (try dsimp only); omega⟩
                    · (try replace hc4 := of_decide_eq_false hc4)
                      refine cd_exit ?_
                      refine thenX_e ?_
                      refine thenX_e ?_
                      refine blockX_hit ?_
                      refine thenX_n ?_
                      refine cd_region ?_
                      refine ol_y rfl rfl (y_move rfl rfl) ?_
                      refine ol_y rfl rfl (y_move rfl rfl) ?_
                      refine ol_y rfl rfl (y_move rfl rfl) ?_
                      refine ol_y rfl rfl (y_indexV rfl Try.underlying22 sz3 rfl (by first | assumption | exact SlV.mk' _ _ _ _) rfl (by omega) (by omega)) ?_
                      refine ol_x rfl rfl (x_setRow (f := Value.int .i64) (i := (at_ : Int)) rfl rfl rfl sz3 (fun _ => ⟨rfl, rfl⟩) (by omega) (by omega) H) ?_
                      clear H
                      rintro _ h21 ⟨rfl, hz154, H⟩
                      refine ol_nil ?_
                      refine blockX_n ?_
                      refine thenX_n ?_
                      refine cd_region ?_
                      refine ol_y rfl rfl (y_addi rfl rfl rfl (in64 (by omega) (by omega))) ?_
                      refine ol_y rfl rfl (y_move rfl rfl) ?_
                      refine ol_nil ?_
                      refine thenX_n ?_
                      first
                        | (exfalso; omega)
                        | (have e : docI xs a b_ (k + 1) = out := by rw [hst, if_neg (by omega)]
                           refine ⟨(k + 1, ov, ob, oc), ⟨rfl, rfl, rfl, rfl, rfl, vint (by simp), trivial⟩, ⟨by (try dsimp only); omega, ?_⟩, by (try dsimp only); omega⟩
                           (try dsimp only)
                           rw [e]; exact H)
                        | (have hw := while_at (fun y => decide (y < gt xs (k : Int))) out at_ (by omega) (fun j y hj hy => hn j y hj hy) hx
                           have e : docI xs a b_ (k + 1) = out := by
                             rw [hst, if_pos (by omega)]
                             unfold docStep
                             rw [hw.2, List.head?_drop, if_pos]
                             have := gt_get (xs := out) (i := (at_ : Int)) (by omega) (by omega)
                             rw [Int.toNat_natCast] at this
                             rw [this, hc3]
                           refine ⟨(k + 1, ov, ob, oc), ⟨rfl, rfl, rfl, rfl, rfl, vint (by simp), trivial⟩, ⟨by (try dsimp only); omega, ?_⟩, by (try dsimp only); omega⟩
                           (try dsimp only)
                           rw [e]; exact H)
                        | (rw [Int.toNat_natCast] at H
                           have hia : i = at_ := by omega
                           subst hia
                           rw [last_set hi2] at H
                           have hw := while_at (fun y => decide (y < gt xs (k : Int))) out i (by omega) (fun j y hj hy => hn j y hj hy) hx
                           have e : docI xs a b_ (k + 1) = insW (fun y => decide (y < gt xs (k : Int))) (gt xs (k : Int)) out := by
                             rw [hst, if_pos (by omega)]
                             unfold docStep
                             rw [hw.2, List.head?_drop, if_neg]
                             intro hh
                             have h1 := (List.getElem?_eq_some_iff.1 hh).1
                             have := gt_get (xs := out) (i := (i : Int)) (by omega) (by omega)
                             rw [Int.toNat_natCast, hh] at this
                             have := Option.some.inj this
                             first
                               | exact hc3 this.symm
                               | omega
                           refine ⟨(k + 1, ov2, ob2, oc2), ⟨rfl, rfl, rfl, rfl, rfl, vint (by simp), trivial⟩, ⟨by (try dsimp only); omega, ?_⟩, by (try dsimp only); omega⟩
                           (try dsimp only)
                           rw [e]
                           unfold insW
                           rw [hw.1, hw.2]
                           exact H)
              · (try have hg16_ := of_decide_eq_false hg16)
                refine ol_gn rfl rfl rfl rfl hg16 rfl ?_
                refine ol_gn rfl rfl rfl rfl hg16 rfl ?_
                refine ol_gn rfl rfl rfl rfl hg16 rfl ?_
                refine ol_gn rfl rfl rfl rfl hg16 rfl ?_
                refine ol_gn rfl rfl rfl rfl hg16 rfl ?_
                refine ol_gn rfl rfl rfl rfl hg16 rfl ?_
                refine ol_y rfl rfl (y_pick_f rfl rfl hg16 rfl) ?_
                refine ol_nil ?_
                refine thenX_n ?_
                refine cd_false rfl rfl ?_
                refine cd_skip ?_
                refine thenX_n ?_
                refine cd_seq ?_
                refine cd_region ?_
                refine ol_y rfl rfl (y_move rfl rfl) ?_
                refine ol_x rfl rfl (x_buildSlice (cs := [_]) rfl Try.underlying22 info3 rfl rfl rfl rfl H) ?_
                clear H
                rintro _ h22 ⟨rfl, hz_b, H⟩
                replace H := Sep.rowBlk (enc := eI) (xs := [(0 : Int)]) eI_ok rfl (one_maxLen _) H
                have hv10_2 := H.rowV eI_ok 0 rfl
                have hr10_2 := H.rowR eI_ok 0 rfl
                replace H := H.drop
                have HF := H.front 0
                dsimp only [nthP, eraseP] at HF
                refine ol_x rfl rfl (x_append (enc := eI) rfl Try.underlying22 info3 rfl (by decide) eI_ok rfl rfl hv10_2 hr10_2 rfl (by simp only [List.length_cons, List.length_nil, maxLen]; omega) (by simp only [List.length_cons, List.length_nil, maxLen]; omega) HF) ?_
                clear H HF hv10_2 hr10_2
                rintro ov2 h23 ⟨hz_, ob2, oc2, H⟩
                replace H := H.ins 0
                dsimp only [insP] at H
                have hov2 := H.rowV eI_ok 0 rfl
                refine ol_y rfl rfl (y_assign rfl rfl) ?_
                have hl2 : (out ++ [(0 : Int)]).length = out.length + 1 := by simp
                refine ol_nil ?_
                refine thenX_n ?_
                refine cd_seq ?_
                refine cd_seq ?_
                refine cd_region ?_
                refine ol_y rfl rfl (y_move rfl rfl) ?_
                refine ol_y rfl rfl (y_lenV rfl Try.underlying22 rfl (by first | assumption | exact SlV.mk' _ _ _ _)) ?_
                refine ol_y rfl rfl ((y_subi rfl rfl rfl (in64 (by omega) (by omega))).eq (vint (show _ = ((out.length : Nat) : Int) by simp))) ?_
                refine ol_y rfl rfl (y_assign rfl rfl) ?_
                refine ol_nil ?_
                refine thenX_n ?_
                refine cd_block ?_
                refine cd_loop (γ := Nat × Int) (fun g => [(1, .int .i64 a), (2, .int .i64 b_), (7, ov2), (9, .int .i64 (gt xs (k : Int))), (10, .int .i64 at_), (11, .int .i64 (g.1 : Int)), (12, v), (13, .int .i64 xs.length), (14, .int .i64 (k : Int))]) (fun g h' => at_ ≤ g.1 ∧ g.1 ≤ out.length ∧ Sep h' (rowP eI 1 3 ov2 ob2 oc2 (out.take g.1 ++ g.2 :: out.drop g.1) :: HP.old h0 :: L)) (fun g => g.1) ((out.length, 0)) ?_ ?_ ?_
                · (repeat (first | exact trivial | refine ⟨rfl, ?_⟩))
                · refine ⟨ha, Nat.le_refl _, ?_⟩
                  (try dsimp only)
                  rw [List.take_length, List.drop_length]
                  exact H
                · skip
                  rintro ⟨i, w⟩ ρ h24 ⟨hai, hi2, H⟩
                  (try dsimp only)
                  dsimp only at hai hi2 H
                  have hlen : (out.take i ++ w :: out.drop i).length = out.length + 1 := by simp; omega
                  have hov2 := H.rowV eI_ok 0 rfl
                  have hor2 := H.rowR eI_ok 0 rfl
                  refine cd_seq ?_
                  refine cd_seq ?_
                  refine cd_region ?_
                  refine ol_y rfl rfl (y_move rfl rfl) ?_
                  refine ol_y rfl rfl (y_move rfl rfl) ?_
                  refine ol_y rfl rfl (y_gtr rfl rfl rfl) ?_
                  refine ol_nil ?_
                  refine thenX_n ?_
                  refine cd_cond _ rfl (fun hc4 => ?_) (fun hc4 => ?_)
                  · (try replace hc4 := of_decide_eq_true hc4)
                    refine cd_skip ?_
                    refine thenX_n ?_
                    refine cd_seq ?_
                    refine cd_block ?_
                    refine cd_region ?_
                    refine ol_y rfl rfl (y_move rfl rfl) ?_
                    refine ol_y rfl rfl (y_move rfl rfl) ?_
                    refine ol_y rfl rfl (y_move rfl rfl) ?_
                    refine ol_y rfl rfl (y_move rfl rfl) ?_
                    refine ol_y rfl rfl ((y_subi rfl rfl rfl (in64 (by omega) (by omega))).eq (vint (show _ = ((i - 1 : Nat) : Int) by omega))) ?_
                    refine ol_y rfl rfl (y_indexV rfl Try.underlying22 sz3 rfl (by first | assumption | exact SlV.mk' _ _ _ _) rfl (by omega) (by omega)) ?_
                    refine ol_y rfl rfl (y_load rfl rfl (fun _ e => ldeq e (ld_row scl3 (by assumption) (by omega) (by omega)))) ?_
                    refine ol_y rfl rfl (y_indexV rfl Try.underlying22 sz3 rfl (by first | assumption | exact SlV.mk' _ _ _ _) rfl (by omega) (by omega)) ?_
                    refine ol_x rfl rfl (x_setRow (f := Value.int .i64) (i := (i : Int)) rfl rfl rfl sz3 (fun _ => ⟨rfl, rfl⟩) (by omega) (by omega) H) ?_
                    clear H
                    rintro _ h25 ⟨rfl, hz148, H⟩
                    refine ol_nil ?_
                    refine blockX_n ?_
                    refine thenX_n ?_
                    refine cd_region ?_
                    refine ol_y rfl rfl (y_move rfl rfl) ?_
                    refine ol_y rfl rfl ((y_subi rfl rfl rfl (in64 (by omega) (by omega))).eq (vint (show _ = ((i - 1 : Nat) : Int) by omega))) ?_
                    refine ol_y rfl rfl (y_assign rfl rfl) ?_
                    refine ol_nil ?_
                    refine thenX_n ?_
                    rw [Int.toNat_natCast, shift_set (by omega) hi2] at H
                    exact ⟨(i - 1, gt out ((i - 1 : Nat) : Int)), ⟨rfl, rfl, rfl, rfl, rfl, rfl, rfl, rfl, rfl, trivial⟩, ⟨by (try dsimp only); omega, by (try dsimp only); omega, H⟩, by (try dsimp only); omega⟩
                  · (try replace hc4 := of_decide_eq_false hc4)
                    refine cd_exit ?_
                    refine thenX_e ?_
                    refine thenX_e ?_
                    refine blockX_hit ?_
                    refine thenX_n ?_
                    refine cd_region ?_
                    refine ol_y rfl rfl (y_move rfl rfl) ?_
                    refine ol_y rfl rfl (y_move rfl rfl) ?_
                    refine ol_y rfl rfl (y_move rfl rfl) ?_
                    refine ol_y rfl rfl (y_indexV rfl Try.underlying22 sz3 rfl (by first | assumption | exact SlV.mk' _ _ _ _) rfl (by omega) (by omega)) ?_
                    refine ol_x rfl rfl (x_setRow (f := Value.int .i64) (i := (at_ : Int)) rfl rfl rfl sz3 (fun _ => ⟨rfl, rfl⟩) (by omega) (by omega) H) ?_
                    clear H
                    rintro _ h26 ⟨rfl, hz154, H⟩
                    refine ol_nil ?_
                    refine blockX_n ?_
                    refine thenX_n ?_
                    refine cd_region ?_
                    refine ol_y rfl rfl (y_addi rfl rfl rfl (in64 (by omega) (by omega))) ?_
                    refine ol_y rfl rfl (y_move rfl rfl) ?_
                    refine ol_nil ?_
                    refine thenX_n ?_
                    first
                      | (exfalso; omega)
                      | (have e : docI xs a b_ (k + 1) = out := by rw [hst, if_neg (by omega)]
                         refine ⟨(k + 1, ov, ob, oc), ⟨rfl, rfl, rfl, rfl, rfl, vint (by simp), trivial⟩, ⟨by (try dsimp only); omega, ?_⟩, by (try dsimp only); omega⟩
                         (try dsimp only)
                         rw [e]; exact H)
                      | (have hw := while_at (fun y => decide (y < gt xs (k : Int))) out at_ (by omega) (fun j y hj hy => hn j y hj hy) hx
                         have e : docI xs a b_ (k + 1) = out := by
                           rw [hst, if_pos (by omega)]
                           unfold docStep
                           rw [hw.2, List.head?_drop, if_pos]
                           have := gt_get (xs := out) (i := (at_ : Int)) (by omega) (by omega)
                           rw [Int.toNat_natCast] at this
                           rw [this, hc3]
                         refine ⟨(k + 1, ov, ob, oc), ⟨rfl, rfl, rfl, rfl, rfl, vint (by simp), trivial⟩, ⟨by (try dsimp only); omega, ?_⟩, by (try dsimp only); omega⟩
                         (try dsimp only)
                         rw [e]; exact H)
                      | (rw [Int.toNat_natCast] at H
                         have hia : i = at_ := by omega
                         subst hia
                         rw [last_set hi2] at H
                         have hw := while_at (fun y => decide (y < gt xs (k : Int))) out i (by omega) (fun j y hj hy => hn j y hj hy) hx
                         have e : docI xs a b_ (k + 1) = insW (fun y => decide (y < gt xs (k : Int))) (gt xs (k : Int)) out := by
                           rw [hst, if_pos (by omega)]
                           unfold docStep
                           rw [hw.2, List.head?_drop, if_neg]
                           intro hh
                           have h1 := (List.getElem?_eq_some_iff.1 hh).1
                           have := gt_get (xs := out) (i := (i : Int)) (by omega) (by omega)
                           rw [Int.toNat_natCast, hh] at this
                           have := Option.some.inj this
                           first
                             | exact hc3 this.symm
                             | omega
                         refine ⟨(k + 1, ov2, ob2, oc2), ⟨rfl, rfl, rfl, rfl, rfl, vint (by simp), trivial⟩, ⟨by (try dsimp only); omega, ?_⟩, by (try dsimp only); omega⟩
                         (try dsimp only)
                         rw [e]
                         unfold insW
                         rw [hw.1, hw.2]
                         exact H)
    · (try replace hc0 := of_decide_eq_false hc0)
      refine cd_exit ?_
      refine thenX_e ?_
      refine thenX_e ?_
      refine blockX_hit ?_
      refine thenX_n ?_
      refine cd_seq ?_
      refine cd_region ?_
      refine ol_y rfl rfl (y_move rfl rfl) ?_
      refine ol_y rfl rfl (y_assign rfl rfl) ?_
      refine ol_nil ?_
      refine thenX_n ?_
      refine cd_ret ?_
      refine ret1 Try.results30 rfl ?_
      have ek : k = xs.length := by omega
      subst ek
      rw [← hout] at H
      exact ⟨ob, oc, H⟩


end Go.X
