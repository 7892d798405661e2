/- Plain: a heap of parts. -/
import Derived.Test.YtclbncbolhmolaaX8
set_option linter.unusedSimpArgs false
set_option linter.unusedVariables false
namespace Go.X
open Go

/-- a part of a range: level, what its numbers begin with, the least of them, from where, to where -/
structure Prt where
  lv : Int
  c : Int
  ls : Int
  a : Int
  b : Int
deriving Inhabited, DecidableEq
def ePt (p : Prt) : List Value := [.int .i64 p.lv, .int .i64 p.c, .int .i64 p.ls, .int .i64 p.a, .int .i64 p.b]
theorem ePt_ok : EncOk ePt 5 := ⟨fun _ => rfl, fun p v hv => by simp only [ePt, List.mem_cons, List.not_mem_nil, or_false] at hv; rcases hv with rfl | rfl | rfl | rfl | rfl <;> rfl⟩
/-- its places are within bounds -/
def PB (x : Prt) : Prop := 0 ≤ x.a ∧ x.a ≤ x.b ∧ x.b ≤ 4194304
def lessP (x y : Prt) : Bool := decide (y.b - y.a < x.b - x.a ∨ (y.b - y.a = x.b - x.a ∧ x.ls < y.ls))
theorem lessP_asymm {x y : Prt} (h : lessP x y = true) : lessP y x = false := by simp only [lessP, decide_eq_true_eq, decide_eq_false_iff_not] at *; omega
theorem lessP_le_trans {x y z : Prt} (h1 : lessP x y = false) (h2 : lessP y z = false) : lessP x z = false := by simp only [lessP, decide_eq_false_iff_not] at *; omega
theorem gt_nat {α : Type} [Inhabited α] (q : List α) (i : Nat) : gt q (i : Int) = q.getD i default := by simp [gt]

def swapL (q : List Prt) (i j : Nat) : List Prt := (q.set i (gt q (j : Int))).set j (gt q (i : Int))
theorem swapL_len (q : List Prt) (i j : Nat) : (swapL q i j).length = q.length := by simp [swapL]
theorem swapL_perm {q : List Prt} {i j : Nat} (hi : i < q.length) (hj : j < q.length) : (swapL q i j).Perm q := by
  rw [List.perm_iff_count]
  intro a
  have h1 : gt q (j : Int) = q[j] := by simp [gt, hj]
  have h2 : gt q (i : Int) = q[i] := by simp [gt, hi]
  unfold swapL
  rw [h1, h2, List.count_set (by simpa using hj), List.count_set hi, List.getElem_set]
  have hci : q[i] = a → 0 < List.count a q := fun e => List.count_pos_iff.2 (e ▸ List.getElem_mem hi)
  by_cases e : i = j
  · subst e
    have := hci
    by_cases h3 : q[i] = a <;> simp [h3] <;> (try (have := hci h3; omega))
  · by_cases h3 : q[i] = a <;> by_cases h4 : q[j] = a <;> simp [h3, h4, e] <;> (try (have := hci h3; omega))
theorem swapL_gt {q : List Prt} {i j k : Nat} (hi : i < q.length) (hj : j < q.length) : gt (swapL q i j) (k : Int) = if k = j then gt q (i : Int) else if k = i then gt q (j : Int) else gt q (k : Int) := by
  rw [gt_nat, gt_nat, gt_nat, gt_nat]
  simp only [swapL, gt_nat, List.getD_eq_getElem?_getD, List.getElem?_set, List.length_set]
  by_cases e1 : j = k
  · subst e1; simp [hj]
  · by_cases e2 : i = k
    · subst e2; simp [hi, e1, Ne.symm e1]
    · simp [e1, e2, Ne.symm e1, Ne.symm e2]

def upL (q : List Prt) (j : Nat) : List Prt :=
  if h : j = 0 then q else
    if lessP (gt q (j : Int)) (gt q (((j - 1) / 2 : Nat) : Int)) then upL (swapL q ((j - 1) / 2) j) ((j - 1) / 2) else q
termination_by j
decreasing_by omega
/-- the greater of the two below, of n -/
def kid (q : List Prt) (i n : Nat) : Nat := if 2 * i + 2 < n ∧ lessP (gt q ((2 * i + 2 : Nat) : Int)) (gt q ((2 * i + 1 : Nat) : Int)) = true then 2 * i + 2 else 2 * i + 1
theorem kid_eq (q : List Prt) (i n : Nat) : kid q i n = 2 * i + 1 ∨ kid q i n = 2 * i + 2 ∧ 2 * i + 2 < n := by
  unfold kid; split
  · rename_i h; exact .inr ⟨rfl, h.1⟩
  · exact .inl rfl
def downL (q : List Prt) (i n : Nat) : List Prt :=
  if h : n ≤ 2 * i + 1 then q else
    if lessP (gt q (kid q i n : Int)) (gt q (i : Int)) then downL (swapL q i (kid q i n)) (kid q i n) n else q
termination_by n - i
decreasing_by have := kid_eq q i n; omega

theorem upL_perm : ∀ (j : Nat) (q : List Prt), j < q.length → (upL q j).Perm q
  | j, q, hj => by
    rw [upL]
    split
    · exact .refl _
    · split
      · exact (upL_perm ((j - 1) / 2) _ (by rw [swapL_len]; omega)).trans (swapL_perm (by omega) hj)
      · exact .refl _
termination_by j => j
decreasing_by omega
theorem downL_perm (n : Nat) : ∀ (k : Nat) (i : Nat) (q : List Prt), n - i ≤ k → n ≤ q.length → i < q.length → (downL q i n).Perm q
  | 0, i, q, hk, hn, hi => by rw [downL, dif_pos (by omega)]
  | k + 1, i, q, hk, hn, hi => by
    have hkid := kid_eq q i n
    rw [downL]
    split
    · exact .refl _
    · split
      · exact (downL_perm n k _ _ (by omega) (by rw [swapL_len]; omega) (by rw [swapL_len]; omega)).trans (swapL_perm hi (by omega))
      · exact .refl _
/-- outside of its first n nothing changes -/
theorem downL_out (n : Nat) : ∀ (k : Nat) (i : Nat) (q : List Prt), n - i ≤ k → n ≤ q.length → i < q.length → ∀ x, n ≤ x → i ≠ x → gt (downL q i n) (x : Int) = gt q (x : Int)
  | 0, i, q, hk, hn, hi, x, hx, _ => by rw [downL, dif_pos (by omega)]
  | k + 1, i, q, hk, hn, hi, x, hx, hix => by
    have hkid := kid_eq q i n
    rw [downL]
    split
    · rfl
    · split
      · rw [downL_out n k _ _ (by omega) (by rw [swapL_len]; omega) (by rw [swapL_len]; omega) x hx (by omega), swapL_gt hi (by omega), if_neg (by omega), if_neg (by omega)]
      · rfl
def okAt (q : List Prt) (i : Nat) : Prop := lessP (gt q (i : Int)) (gt q (((i - 1) / 2 : Nat) : Int)) = false
def HeapL (q : List Prt) (n : Nat) : Prop := ∀ i, 0 < i → i < n → okAt q i
theorem upL_heap : ∀ (j : Nat) (q : List Prt), j < q.length → (∀ i, 0 < i → i < q.length → i ≠ j → okAt q i) →
    (∀ i, i < q.length → 0 < i → (i - 1) / 2 = j → 0 < j → lessP (gt q (i : Int)) (gt q (((j - 1) / 2 : Nat) : Int)) = false) → HeapL (upL q j) q.length
  | j, q, hj, h1, h2 => by
    rw [upL]
    split
    · rename_i h0
      intro i hi0 hi; exact h1 i hi0 hi (by omega)
    · rename_i h0
      split
      · rename_i hl
        have hp : (j - 1) / 2 < q.length := by omega
        have hlen := swapL_len q ((j - 1) / 2) j
        rw [← hlen]
        refine upL_heap ((j - 1) / 2) _ (by omega) (fun i hi0 hi hne => ?_) (fun i hi hi0 hpar hpos => ?_)
        · rw [hlen] at hi
          unfold okAt
          rw [swapL_gt hp hj, swapL_gt hp hj]
          by_cases e1 : i = j
          · subst e1
            rw [if_pos rfl, if_neg (by omega), if_pos rfl]
            exact lessP_asymm hl
          · rw [if_neg e1, if_neg hne]
            by_cases e2 : (i - 1) / 2 = j
            · rw [if_pos e2]; exact h2 i hi hi0 e2 (by omega)
            · rw [if_neg e2]
              by_cases e3 : (i - 1) / 2 = (j - 1) / 2
              · rw [if_pos e3]
                have := h1 i hi0 hi e1
                unfold okAt at this
                rw [e3] at this
                exact lessP_le_trans this (lessP_asymm hl)
              · rw [if_neg e3]; exact h1 i hi0 hi e1
        · rw [hlen] at hi
          rw [swapL_gt hp hj, swapL_gt hp hj]
          rw [if_neg (c := ((j - 1) / 2 - 1) / 2 = j) (by omega), if_neg (c := ((j - 1) / 2 - 1) / 2 = (j - 1) / 2) (by omega)]
          have hpp := h1 ((j - 1) / 2) (by omega) hp (by omega)
          by_cases e1 : i = j
          · subst e1
            rw [if_pos rfl]
            exact hpp
          · rw [if_neg e1, if_neg (by omega)]
            have := h1 i hi0 hi e1
            unfold okAt at this hpp
            rw [hpar] at this
            exact lessP_le_trans this hpp
      · rename_i hl
        intro i hi0 hi
        by_cases e : i = j
        · subst e; simpa [okAt] using hl
        · exact h1 i hi0 hi e
termination_by j => j
decreasing_by omega
theorem downL_heap (n : Nat) : ∀ (k : Nat) (i : Nat) (q : List Prt), n - i ≤ k → n ≤ q.length → i < q.length → (∀ x, 0 < x → x < n → (x - 1) / 2 ≠ i → okAt q x) →
    (∀ x, x < n → 0 < x → (x - 1) / 2 = i → 0 < i → lessP (gt q (x : Int)) (gt q (((i - 1) / 2 : Nat) : Int)) = false) → HeapL (downL q i n) n
  | 0, i, q, hk, hn, hi, h1, h2 => by
    rw [downL, dif_pos (by omega)]
    intro x hx0 hx; exact h1 x hx0 hx (by omega)
  | k + 1, i, q, hk, hn, hi, h1, h2 => by
    have hkid := kid_eq q i n
    rw [downL]
    split
    · intro x hx0 hx; exact h1 x hx0 hx (by omega)
    · rename_i hle
      have hc : kid q i n < n := by omega
      have hpk : (kid q i n - 1) / 2 = i := by omega
      have hkm : ∀ x, x < n → 0 < x → (x - 1) / 2 = i → lessP (gt q (x : Int)) (gt q (kid q i n : Int)) = false := by
        intro x hx hx0 hp
        have hx2 : x = 2 * i + 1 ∨ x = 2 * i + 2 := by omega
        unfold kid
        split
        · rename_i hb
          rcases hx2 with rfl | rfl
          · exact lessP_asymm hb.2
          · simp [lessP]
        · rename_i hb
          rcases hx2 with rfl | rfl
          · simp [lessP]
          · cases hh : lessP (gt q ((2 * i + 2 : Nat) : Int)) (gt q ((2 * i + 1 : Nat) : Int)) with
            | false => rfl
            | true => exact absurd ⟨hx, hh⟩ hb
      split
      · rename_i hl
        generalize hkd : kid q i n = m at *
        have hlen := swapL_len q i m
        refine downL_heap n k m _ (by omega) (by omega) (by omega) (fun x hx0 hx hne => ?_) (fun x hx hx0 hp _ => ?_)
        · unfold okAt
          rw [swapL_gt hi (by omega), swapL_gt hi (by omega)]
          rw [if_neg (c := (x - 1) / 2 = m) hne]
          by_cases e1 : x = m
          · subst e1
            rw [if_pos rfl, if_pos (by omega)]
            exact lessP_asymm hl
          · rw [if_neg e1]
            by_cases e2 : x = i
            · subst e2
              rw [if_pos rfl, if_neg (by omega)]
              exact h2 m hc (by omega) hpk hx0
            · rw [if_neg e2]
              by_cases e3 : (x - 1) / 2 = i
              · rw [if_pos e3]; exact hkm x hx hx0 e3
              · rw [if_neg e3]; exact h1 x hx0 hx e3
        · rw [swapL_gt hi (by omega), swapL_gt hi (by omega)]
          rw [if_neg (by omega), if_neg (by omega), hpk, if_neg (by omega), if_pos rfl]
          have := h1 x hx0 hx (by omega)
          unfold okAt at this
          rw [hp] at this
          exact this
      · rename_i hl
        intro x hx0 hx
        by_cases e : (x - 1) / 2 = i
        · have := hkm x hx hx0 e
          unfold okAt
          rw [e]
          exact lessP_le_trans this (by simpa using hl)
        · exact h1 x hx0 hx e
theorem heap_root {q : List Prt} {n : Nat} (H : HeapL q n) : ∀ i, i < n → lessP (gt q (i : Int)) (gt q ((0 : Nat) : Int)) = false
  | 0, _ => by simp [lessP]
  | i + 1, hi => lessP_le_trans (H (i + 1) (by omega) hi) (heap_root H ((i + 1 - 1) / 2) (by omega))
termination_by i => i
decreasing_by omega

def pushL (q : List Prt) (p : Prt) : List Prt := upL (q ++ [p]) q.length
def popL (q : List Prt) : List Prt := (downL (swapL q 0 (q.length - 1)) 0 (q.length - 1)).take (q.length - 1)
theorem pushL_perm (q : List Prt) (p : Prt) : (pushL q p).Perm (p :: q) := (upL_perm _ _ (by simp)).trans (List.perm_append_comm.trans (by simp))
theorem pushL_len (q : List Prt) (p : Prt) : (pushL q p).length = q.length + 1 := by have := (pushL_perm q p).length_eq; simpa using this
theorem gt_append_l {q : List Prt} {p : Prt} {i : Nat} (hi : i < q.length) : gt (q ++ [p]) (i : Int) = gt q (i : Int) := by
  simp [gt, List.getElem?_append, hi]
theorem pushL_heap {q : List Prt} (p : Prt) (H : HeapL q q.length) : HeapL (pushL q p) (pushL q p).length := by
  rw [pushL_len]
  have := upL_heap q.length (q ++ [p]) (by simp) (fun i hi0 hi hne => ?_) (fun i hi hi0 hp h0 => ?_)
  · simpa [pushL] using this
  · simp at hi
    unfold okAt
    rw [gt_append_l (by omega), gt_append_l (by omega)]
    exact H i hi0 (by omega)
  · simp at hi; omega
theorem downL_len {q : List Prt} {i n : Nat} (hn : n ≤ q.length) (hi : i < q.length) : (downL q i n).length = q.length := (downL_perm n (n - i) i q (Nat.le_refl _) hn hi).length_eq
theorem popL_last {q : List Prt} (h : 0 < q.length) : gt (downL (swapL q 0 (q.length - 1)) 0 (q.length - 1)) ((q.length - 1 : Nat) : Int) = gt q ((0 : Nat) : Int) := by
  rcases Nat.eq_or_lt_of_le h with e | hlt
  · rw [downL, dif_pos (by omega), swapL_gt h (by omega), if_pos rfl]
  · rw [downL_out (q.length - 1) (q.length - 1) 0 _ (by omega) (by rw [swapL_len]; omega) (by rw [swapL_len]; omega) _ (Nat.le_refl _) (by omega), swapL_gt h (by omega), if_pos rfl]
theorem popL_len {q : List Prt} (h : 0 < q.length) : (popL q).length = q.length - 1 := by
  unfold popL
  rw [List.length_take, downL_len (by rw [swapL_len]; omega) (by rw [swapL_len]; omega), swapL_len]; omega
theorem popL_perm {q : List Prt} (h : 0 < q.length) : q.Perm (gt q ((0 : Nat) : Int) :: popL q) := by
  have hl : (downL (swapL q 0 (q.length - 1)) 0 (q.length - 1)).length = q.length := by rw [downL_len (by rw [swapL_len]; omega) (by rw [swapL_len]; omega), swapL_len]
  have hp : (downL (swapL q 0 (q.length - 1)) 0 (q.length - 1)).Perm q := (downL_perm _ _ _ _ (Nat.le_refl _) (by rw [swapL_len]; omega) (by rw [swapL_len]; omega)).trans (swapL_perm h (by omega))
  have hg := popL_last h
  refine hp.symm.trans ?_
  unfold popL
  generalize hd : downL (swapL q 0 (q.length - 1)) 0 (q.length - 1) = d at *
  have e : d = d.take (q.length - 1) ++ [gt q ((0 : Nat) : Int)] := by
    have h1 : d.drop (q.length - 1) = [gt q ((0 : Nat) : Int)] := by
      rw [List.drop_eq_getElem_cons (by omega), List.drop_eq_nil_of_le (by omega), ← hg]
      simp [gt, show q.length - 1 < d.length by omega]
    rw [← h1, List.take_append_drop]
  have e2 : (d.take (q.length - 1) ++ [gt q ((0 : Nat) : Int)]).Perm (gt q ((0 : Nat) : Int) :: d.take (q.length - 1)) := List.perm_append_comm.trans (by simp)
  rw [← e] at e2
  exact e2
theorem popL_heap {q : List Prt} (h : 0 < q.length) (H : HeapL q q.length) : HeapL (popL q) (popL q).length := by
  rw [popL_len h]
  have hl : (downL (swapL q 0 (q.length - 1)) 0 (q.length - 1)).length = q.length := by rw [downL_len (by rw [swapL_len]; omega) (by rw [swapL_len]; omega), swapL_len]
  have hd : HeapL (downL (swapL q 0 (q.length - 1)) 0 (q.length - 1)) (q.length - 1) := by
    refine downL_heap _ _ 0 _ (Nat.le_refl _) (by rw [swapL_len]; omega) (by rw [swapL_len]; omega) (fun x hx0 hx hne => ?_) (fun x hx hx0 hp h0 => by omega)
    unfold okAt
    rw [swapL_gt h (by omega), swapL_gt h (by omega), if_neg (by omega), if_neg (by omega), if_neg (by omega), if_neg hne]
    exact H x hx0 (by omega)
  intro i hi0 hi
  have := hd i hi0 hi
  have hg : ∀ k, k < q.length - 1 → gt (popL q) (k : Int) = gt (downL (swapL q 0 (q.length - 1)) 0 (q.length - 1)) (k : Int) := by
    intro k hk
    simp [gt, popL, List.getElem?_take, hk]
  unfold okAt at *
  rw [hg i hi, hg _ (by omega)]
  exact this
theorem popL_min {q : List Prt} (h : 0 < q.length) (H : HeapL q q.length) : ∀ x ∈ popL q, lessP x (gt q ((0 : Nat) : Int)) = false := by
  intro x hx
  have hm : x ∈ q := (popL_perm h).mem_iff.2 (List.mem_cons_of_mem _ hx)
  obtain ⟨i, hi, rfl⟩ := List.getElem_of_mem hm
  have := heap_root H i hi
  simpa [gt, hi] using this
end Go.X
