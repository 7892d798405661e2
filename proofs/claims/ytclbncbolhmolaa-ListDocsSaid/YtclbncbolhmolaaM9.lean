/- The best of a range and its unlike numbers: the same pairs. -/
import Derived.Test.YtclbncbolhmolaaM8
namespace Go.X
open Go

theorem nodup_le {α : Type} [BEq α] [LawfulBEq α] : ∀ (D R : List α), D.Nodup → (∀ x ∈ D, x ∈ R) → D.length ≤ R.length
  | [], R, _, _ => Nat.zero_le _
  | x :: D, R, hn, hs => by
    rw [List.nodup_cons] at hn
    have hx : x ∈ R := hs x (by simp)
    have := nodup_le D (R.erase x) hn.2 fun y hy => (List.mem_erase_of_ne (fun e : y = x => by subst e; exact hn.1 hy)).2 (hs y (by simp [hy]))
    rw [List.length_erase_of_mem hx] at this
    have hp : 0 < R.length := List.length_pos_of_mem hx
    simp only [List.length_cons]; omega
theorem PairsOf.nodup {A : List Int} {D : List Pr} (H : PairsOf A D) : D.Nodup := H.so.imp fun h e => by rw [e] at h; omega
theorem RankOf.nodup {A : List Int} {R : List Pr} (H : RankOf A R) : R.Nodup := H.so.imp fun h e => by rw [e] at h; exact better_irrefl h
theorem pairs_rank {A : List Int} {D R : List Pr} (h1 : PairsOf A D) (h2 : RankOf A R) : D.length = R.length ∧ ∀ x, x ∈ D ↔ x ∈ R := by
  have hm : ∀ x, x ∈ D ↔ x ∈ R := fun x => by rw [h1.mem, h2.mem]
  exact ⟨Nat.le_antisymm (nodup_le _ _ h1.nodup fun x hx => (hm x).1 hx) (nodup_le _ _ h2.nodup fun x hx => (hm x).2 hx), hm⟩
theorem best_first {A : List Int} {D R : List Pr} (h1 : PairsOf A D) (h2 : RankOf A R) {k : Nat} (hk : 0 < k) {pr : Pr} (h : pr ∈ D) :
    0 < (R.take k).length ∧ ¬ (gt (R.take k) 0).2 < pr.2 ∧ ¬ (pr.2 = (gt (R.take k) 0).2 ∧ pr.1 < (gt (R.take k) 0).1) := by
  have hm := ((pairs_rank h1 h2).2 pr).1 h
  have hs := h2.so
  cases R with
  | nil => cases hm
  | cons x R =>
    obtain ⟨k', rfl⟩ : ∃ k', k = k' + 1 := ⟨k - 1, by omega⟩
    simp only [List.take_succ_cons, gt, Int.toNat_zero, List.getD_cons_zero, List.length_cons]
    refine ⟨by omega, ?_⟩
    rcases List.mem_cons.1 hm with rfl | hm
    · omega
    · have := (List.pairwise_cons.1 hs).1 _ hm
      unfold better at this
      omega
theorem sliceL_le {α : Type} (l : List α) (a b : Nat) : (sliceL l a b).length ≤ l.length := by unfold sliceL; rw [List.length_take, List.length_drop]; omega
theorem take_take_len {α : Type} (R : List α) {j k : Nat} (h : j ≤ k) : R.take j = (R.take k).take (R.take j).length := by
  rw [List.take_take, List.length_take, List.take_eq_take_iff]; omega
end Go.X
