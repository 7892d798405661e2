/- The first part of a search; the unlike numbers of a part; what is in a range. -/
import Derived.Test.YtclbncbolhmolaaM7
namespace Go.X
open Go

theorem root_part {W : Nat} {l : List Int} {a b : Int} (hr : ∀ c ∈ l, 0 ≤ c ∧ c < 2 ^ W) (h0 : 0 ≤ a) (hab : a ≤ b) (hb : b ≤ l.length) : PartOk W l (sliceL l a.toNat b.toNat) ⟨0, 0, 0, a, b⟩ :=
  ⟨Int.le_refl _, by simp, h0, hab, hb, Int.le_refl _, by simp, by simp, by
    simp only [Int.toNat_zero, lvRow]
    symm
    rw [List.filter_eq_self]
    intro x hx
    have hm : x ∈ l := List.mem_of_mem_drop (List.mem_of_mem_take hx)
    obtain ⟨h1, h2⟩ := hr x hm
    simp only [cov, Int.toNat_zero, Nat.sub_zero, decide_eq_true_eq]
    exact Int.ediv_eq_zero_of_lt h1 h2⟩
theorem sliceL_nil {α : Type} (l : List α) {a b : Nat} (h : b ≤ a) : sliceL l a b = [] := by
  unfold sliceL; rw [show b - a = 0 by omega, List.take_zero]
theorem putQ_nil (p : Prt) : putQ [] p = if p.a < p.b then [p] else [] := by
  unfold putQ
  split
  · have := (pushL_perm [] p).eq_singleton
    exact this
  · rfl
theorem root_ok {W : Nat} {l : List Int} {a b : Int} (hr : ∀ c ∈ l, 0 ≤ c ∧ c < 2 ^ W) : QOk W l (sliceL l (max a 0).toNat (min b l.length).toNat) (putQ [] ⟨0, 0, 0, max a 0, min b l.length⟩) := by
  rw [putQ_nil]
  split
  · rename_i hlt
    dsimp only at hlt
    have hp := root_part (W := W) (a := max a 0) (b := min b l.length) hr (by omega) (by omega) (by omega)
    refine ⟨fun p hp' => ?_, by simp, ?_, ?_⟩
    · rw [List.mem_singleton] at hp'
      subst hp'
      exact ⟨hp, hlt⟩
    · have := pushL_heap (q := []) (p := (⟨0, 0, 0, max a 0, min b l.length⟩ : Prt)) (by intro i j; intros; simp at *)
      have e : pushL [] (⟨0, 0, 0, max a 0, min b l.length⟩ : Prt) = [⟨0, 0, 0, max a 0, min b l.length⟩] := (pushL_perm [] _).eq_singleton
      rw [e] at this
      exact this
    · simp only [sumL, ps0]; omega
  · exact ⟨by simp, by simp, by intro i j; intros; simp at *, by simp [sumL]⟩
theorem root_rem {W : Nat} {l : List Int} {a b : Int} {R : List Pr} (hr : ∀ c ∈ l, 0 ≤ c ∧ c < 2 ^ W) (H : RankOf (sliceL l (max a 0).toNat (min b l.length).toNat) R) :
    Rem W (sliceL l (max a 0).toNat (min b l.length).toNat) (putQ [] ⟨0, 0, 0, max a 0, min b l.length⟩) R := by
  refine ⟨H.so, fun pr => ?_⟩
  rw [H.mem, putQ_nil]
  constructor
  · rintro ⟨h1, h2⟩
    refine ⟨?_, h1, h2⟩
    have hlt : max a 0 < min b (l.length : Int) := by
      rcases Int.lt_or_le (max a 0) (min b (l.length : Int)) with h | h
      · exact h
      · rw [sliceL_nil _ (by omega)] at h1; cases h1
    refine ⟨⟨0, 0, 0, max a 0, min b l.length⟩, by rw [if_pos hlt]; simp, ?_⟩
    have hm : pr.1 ∈ l := List.mem_of_mem_drop (List.mem_of_mem_take h1)
    obtain ⟨h3, h4⟩ := hr _ hm
    simp only [cov, Int.toNat_zero, Nat.sub_zero, decide_eq_true_eq]
    exact Int.ediv_eq_zero_of_lt h3 h4
  · rintro ⟨_, h1, h2⟩; exact ⟨h1, h2⟩

/-- the unlike numbers of a part, rising, each with how often it is there -/
structure NodeD (W : Nat) (A : List Int) (p : Prt) (D : List Pr) : Prop where
  so : D.Pairwise fun x y => x.1 < y.1
  mem : ∀ pr, pr ∈ D ↔ pr.1 ∈ A ∧ cov W p pr.1 = true ∧ pr.2 = (A.count pr.1 : Int)
  le : (D.length : Int) ≤ p.b - p.a
theorem NodeD.none {W : Nat} {l A : List Int} {p : Prt} (H : PartOk W l A p) (h : p.a = p.b) : NodeD W A p [] := by
  refine ⟨.nil, fun pr => ?_, by simp; omega⟩
  have hc := H.cnt
  have : A.filter (cov W p) = [] := List.eq_nil_of_length_eq_zero (by omega)
  constructor
  · intro h; cases h
  · rintro ⟨h1, h2, _⟩
    have hm : pr.1 ∈ A.filter (cov W p) := List.mem_filter.2 ⟨h1, h2⟩
    rw [this] at hm; cases hm
theorem NodeD.leaf {W : Nat} {l A : List Int} {p : Prt} (H : PartOk W l A p) (hlv : p.lv = W) (h : p.a < p.b) : NodeD W A p [(p.c, p.b - p.a)] := by
  have hlvn : p.lv.toNat = W := by omega
  have hcv : ∀ x, cov W p x = decide (x = p.c) := fun x => by simp only [cov, hlvn, Nat.sub_self, Int.pow_zero, Int.ediv_one]
  have hcnt : (A.count p.c : Int) = p.b - p.a := by
    rw [count_filter, ← H.cnt]
    congr 2
    exact List.filter_congr fun x _ => (hcv x).symm
  refine ⟨by simp, fun pr => ?_, by simp; omega⟩
  obtain ⟨s, n⟩ := pr
  rw [List.mem_singleton, hcv, decide_eq_true_eq]
  dsimp only
  constructor
  · intro e
    cases e
    exact ⟨List.count_pos_iff.1 (by omega), rfl, hcnt.symm⟩
  · rintro ⟨_, rfl, e⟩
    rw [e, hcnt]
theorem NodeD.node {W : Nat} {l A : List Int} {p : Prt} {D0 D1 : List Pr} (H : PartOk W l A p) (hj : p.lv < W)
    (h0 : NodeD W A (kid0 l.length (rowBits (W - 1 - p.lv.toNat) (lvRow W l p.lv.toNat)) p) D0) (h1 : NodeD W A (kid1 W l.length (rowBits (W - 1 - p.lv.toNat) (lvRow W l p.lv.toNat)) p) D1) : NodeD W A p (D0 ++ D1) := by
  generalize rowBits (W - 1 - p.lv.toNat) (lvRow W l p.lv.toNat) = f at *
  have hlv0 := H.lv0; have ha0 := H.a0; have hab := H.ab; have hbn := H.bn
  refine ⟨?_, fun pr => ?_, ?_⟩
  · rw [List.pairwise_append]
    refine ⟨h0.so, h1.so, fun x hx y hy => ?_⟩
    have c0 : x.1 / 2 ^ (W - (p.lv + 1).toNat) = 2 * p.c := of_decide_eq_true ((h0.mem x).1 hx).2.1
    have c1 : y.1 / 2 ^ (W - (p.lv + 1).toNat) = 2 * p.c + 1 := of_decide_eq_true ((h1.mem y).1 hy).2.1
    have hlt : x.1 / 2 ^ (W - (p.lv + 1).toNat) < y.1 / 2 ^ (W - (p.lv + 1).toNat) := by omega
    rcases Int.lt_or_le x.1 y.1 with h | h
    · exact h
    · have := Int.ediv_le_ediv (show (0 : Int) < 2 ^ (W - (p.lv + 1).toNat) from Int.pow_pos (by decide)) h
      omega
  · rw [List.mem_append, h0.mem, h1.mem, kid_cov (n := l.length) (m := l.length) (f := f) (g := f) hlv0 hj, Bool.or_eq_true]
    constructor
    · rintro (⟨h1, h2, h3⟩ | ⟨h1, h2, h3⟩)
      · exact ⟨h1, .inl h2, h3⟩
      · exact ⟨h1, .inr h2, h3⟩
    · rintro ⟨h1, h2 | h2, h3⟩
      · exact .inl ⟨h1, h2, h3⟩
      · exact .inr ⟨h1, h2, h3⟩
  · have e0 := h0.le
    have e1 := h1.le
    simp only [kid0, kid1] at e0 e1
    rw [List.length_append]
    omega
theorem NodeD.pairs {W : Nat} {l : List Int} {a b : Int} {D : List Pr} (hr : ∀ c ∈ l, 0 ≤ c ∧ c < 2 ^ W) (H : NodeD W (sliceL l a.toNat b.toNat) ⟨0, 0, 0, a, b⟩ D) : PairsOf (sliceL l a.toNat b.toNat) D := by
  refine ⟨H.so, fun pr => ?_⟩
  rw [H.mem]
  constructor
  · rintro ⟨h1, _, h3⟩; exact ⟨h1, h3⟩
  · rintro ⟨h1, h3⟩
    refine ⟨h1, ?_, h3⟩
    have hm : pr.1 ∈ l := List.mem_of_mem_drop (List.mem_of_mem_take h1)
    obtain ⟨h4, h5⟩ := hr _ hm
    simp only [cov, Int.toNat_zero, Nat.sub_zero, decide_eq_true_eq]
    exact Int.ediv_eq_zero_of_lt h4 h5
theorem RankOf.perm {A B : List Int} {R : List Pr} (h : A.Perm B) (H : RankOf A R) : RankOf B R :=
  ⟨H.so, fun pr => by rw [H.mem, h.mem_iff, h.count_eq]⟩
end Go.X
