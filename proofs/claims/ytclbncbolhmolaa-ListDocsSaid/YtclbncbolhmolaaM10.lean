/- The least of a range, by blocks. -/
import Derived.Test.YtclbncbolhmolaaX4
set_option linter.unusedSimpArgs false
set_option linter.unusedVariables false
namespace Go.X
open Go

/-- the place of the least number among those of S, the first of like ones -/
def LeastOn (l : List Int) (S : Int → Prop) (r : Int) : Prop :=
  (r = -1 ∧ ∀ i, ¬ S i) ∨ (0 ≤ r ∧ S r ∧ ∀ i, S i → gt l r < gt l i ∨ (gt l r = gt l i ∧ r ≤ i))
theorem LeastOn.congr {l : List Int} {S S' : Int → Prop} {r : Int} (H : LeastOn l S r) (h : ∀ i, S i ↔ S' i) : LeastOn l S' r := by
  rcases H with ⟨h1, h2⟩ | ⟨h1, h2, h3⟩
  · exact .inl ⟨h1, fun i hi => h2 i ((h i).2 hi)⟩
  · exact .inr ⟨h1, (h r).1 h2, fun i hi => h3 i ((h i).2 hi)⟩
def betterF (l : List Int) (a b : Int) : Int := if a < 0 then b else if b < 0 ∨ gt l a < gt l b ∨ (gt l a = gt l b ∧ a < b) then a else b
theorem better_least {l : List Int} {S S' : Int → Prop} {x y : Int} (h1 : LeastOn l S x) (h2 : LeastOn l S' y) : LeastOn l (fun i => S i ∨ S' i) (betterF l x y) := by
  unfold betterF
  rcases h1 with ⟨rfl, h1⟩ | ⟨hx, hS, h1⟩
  · rw [if_pos (by omega)]
    rcases h2 with ⟨rfl, h2⟩ | ⟨hy, hS', h2⟩
    · exact .inl ⟨rfl, fun i hi => hi.elim (h1 i) (h2 i)⟩
    · exact .inr ⟨hy, .inr hS', fun i hi => hi.elim (fun h => absurd h (h1 i)) (h2 i)⟩
  · rw [if_neg (by omega)]
    rcases h2 with ⟨rfl, h2⟩ | ⟨hy, hS', h2⟩
    · rw [if_pos (.inl (by omega))]
      exact .inr ⟨hx, .inl hS, fun i hi => hi.elim (h1 i) (fun h => absurd h (h2 i))⟩
    · split
      · rename_i hc
        refine .inr ⟨hx, .inl hS, fun i hi => ?_⟩
        rcases hi with hi | hi
        · exact h1 i hi
        · have := h2 i hi; omega
      · rename_i hc
        refine .inr ⟨hy, .inr hS', fun i hi => ?_⟩
        rcases hi with hi | hi
        · have := h1 i hi; omega
        · exact h2 i hi
theorem LeastOn.rng {l : List Int} {S : Int → Prop} {r lo hi : Int} (H : LeastOn l S r) (h : ∀ i, S i → lo ≤ i ∧ i < hi) : r = -1 ∨ (lo ≤ r ∧ r < hi) := by
  rcases H with ⟨h1, _⟩ | ⟨_, h2, _⟩
  · exact .inl h1
  · exact .inr (h r h2)
theorem LeastOn.rng2 {l : List Int} {S : Int → Prop} {r : Int} {n : Nat} (H : LeastOn l S r) (h : ∀ i, S i → 0 ≤ i ∧ i < n) : -1 ≤ r ∧ r < n := by
  have := H.rng h
  omega
def scanF (l : List Int) (a : Int) : Nat → Int
  | 0 => -1
  | k + 1 => betterF l (scanF l a k) (a + k)
theorem scan_least (l : List Int) {a : Int} (h0 : 0 ≤ a) : ∀ k : Nat, LeastOn l (fun i => a ≤ i ∧ i < a + k) (scanF l a k)
  | 0 => .inl ⟨rfl, fun i hi => by omega⟩
  | k + 1 => by
    have h1 := scan_least l h0 k
    have h2 : LeastOn l (fun i => i = a + k) (a + k) := .inr ⟨by omega, rfl, fun i hi => .inr (by rw [hi]; omega)⟩
    exact (better_least h1 h2).congr fun i => by omega
theorem scan_rng (l : List Int) {a : Int} (h0 : 0 ≤ a) (k : Nat) : scanF l a k = -1 ∨ (a ≤ scanF l a k ∧ scanF l a k < a + k) := (scan_least l h0 k).rng fun i hi => hi
/-- so many blocks from one on -/
def blkS (n i w : Nat) (j : Int) : Prop := 32 * (i : Int) ≤ j ∧ j < 32 * ((i : Int) + w) ∧ j < n
/-- a row of the table: of 2^k blocks each -/
structure RowOk (l : List Int) (nb w : Nat) (xs : List Int) : Prop where
  len : xs.length = nb + 1 - w
  at_ : ∀ i : Nat, i < xs.length → LeastOn l (blkS l.length i w) (gt xs (i : Int))
theorem RowOk.rng {l : List Int} {nb w : Nat} {xs : List Int} (H : RowOk l nb w xs) {i : Nat} (hi : i < xs.length) : -1 ≤ gt xs (i : Int) ∧ gt xs (i : Int) < max l.length 1 := by
  have := (H.at_ i hi).rng (lo := 0) (hi := l.length) fun j hj => by unfold blkS at hj; omega
  omega
/-- the first row: block by block -/
def row1 (l : List Int) : Nat → List Int
  | 0 => []
  | j + 1 => row1 l j ++ [scanF l (32 * j) (min (32 * (j : Int) + 32) l.length - 32 * j).toNat]
theorem row1_len (l : List Int) : ∀ j, (row1 l j).length = j
  | 0 => rfl
  | j + 1 => by simp [row1, row1_len l j]
theorem row1_gt (l : List Int) : ∀ j (i : Nat), i < j → gt (row1 l j) (i : Int) = scanF l (32 * i) (min (32 * (i : Int) + 32) l.length - 32 * i).toNat
  | 0, i, h => by omega
  | j + 1, i, h => by
    rcases Nat.lt_or_ge i j with h1 | h1
    · rw [← row1_gt l j i h1]
      simp [gt, row1, List.getElem?_append, row1_len, h1]
    · obtain rfl : i = j := by omega
      simp [gt, row1, List.getElem?_append, row1_len]
theorem row1_ok (l : List Int) {nb : Nat} (hn : 32 * nb < l.length + 32) : RowOk l nb 1 (row1 l nb) := by
  refine ⟨by rw [row1_len]; omega, fun i hi => ?_⟩
  rw [row1_len] at hi
  rw [row1_gt l nb i hi]
  have := scan_least l (a := 32 * (i : Int)) (by omega) (min (32 * (i : Int) + 32) l.length - 32 * i).toNat
  refine this.congr fun j => ?_
  unfold blkS
  omega
/-- the next row, so far -/
structure NextOk (l : List Int) (w : Nat) (nx : List Int) : Prop where
  at_ : ∀ i : Nat, i < nx.length → LeastOn l (blkS l.length i (w + w)) (gt nx (i : Int))
theorem NextOk.nil (l : List Int) (w : Nat) : NextOk l w [] := ⟨fun i hi => by simp at hi⟩
theorem NextOk.snoc {l : List Int} {w : Nat} {nx : List Int} {x : Int} (H : NextOk l w nx) (hx : LeastOn l (blkS l.length nx.length (w + w)) x) : NextOk l w (nx ++ [x]) := by
  refine ⟨fun i hi => ?_⟩
  rw [List.length_append, List.length_singleton] at hi
  rcases Nat.lt_or_ge i nx.length with h1 | h1
  · have := H.at_ i h1
    have e : gt (nx ++ [x]) (i : Int) = gt nx (i : Int) := by simp [gt, List.getElem?_append, h1]
    rw [e]; exact this
  · obtain rfl : i = nx.length := by omega
    have e : gt (nx ++ [x]) (nx.length : Int) = x := by simp [gt, List.getElem?_append]
    rw [e]; exact hx
theorem row_next {l : List Int} {nb w : Nat} {xs : List Int} (H : RowOk l nb w xs) {i : Nat} (hi : i + w < xs.length) : LeastOn l (blkS l.length i (w + w)) (betterF l (gt xs (i : Int)) (gt xs ((i : Int) + w))) := by
  have h1 := H.at_ i (by omega)
  have h2 := H.at_ (i + w) hi
  have e : ((i + w : Nat) : Int) = (i : Int) + w := by omega
  rw [e] at h2
  refine (better_least h1 h2).congr fun j => ?_
  unfold blkS
  omega
end Go.X
