/- The unlike numbers of a range, by their first places. -/
import Derived.Test.YtclbncbolhmolaaC25
import Derived.Test.YtclbncbolhmolaaM9
set_option linter.unusedSimpArgs false
set_option linter.unusedVariables false
namespace Go.X
open Go

theorem lastIx_some : ∀ {l : List Int} {k j : Nat} {d : Int}, lastIx l k d = some j → j < k ∧ gt l (j : Int) = d
  | l, 0, j, d, h => by cases h
  | l, k + 1, j, d, h => by
    simp only [lastIx] at h
    split at h
    · rename_i hd; cases h; exact ⟨by omega, hd⟩
    · have := lastIx_some h; exact ⟨by omega, this.2⟩
theorem lastIx_ge : ∀ {l : List Int} {k i : Nat} {d : Int}, i < k → gt l (i : Int) = d → ∃ j, lastIx l k d = some j ∧ i ≤ j
  | l, 0, i, d, h, _ => by omega
  | l, k + 1, i, d, h, e => by
    simp only [lastIx]
    split
    · exact ⟨k, rfl, by omega⟩
    · rename_i hd
      rcases Nat.lt_or_ge i k with h1 | h1
      · exact lastIx_ge h1 e
      · obtain rfl : i = k := by omega
        exact absurd e hd
theorem backF_lt (l : List Int) (i : Nat) : -1 ≤ backF l i ∧ backF l i < i := by
  unfold backF
  cases h : lastIx l i (gt l (i : Int)) with
  | none => dsimp only; omega
  | some j => have := (lastIx_some h).1; dsimp only; omega
theorem backF_at {l : List Int} {i : Nat} (h : 0 ≤ backF l i) : ∃ j : Nat, backF l i = j ∧ j < i ∧ gt l (j : Int) = gt l (i : Int) := by
  unfold backF at h ⊢
  cases hl : lastIx l i (gt l (i : Int)) with
  | none => rw [hl] at h; dsimp only at h; omega
  | some j => exact ⟨j, rfl, lastIx_some hl⟩
theorem backF_ge {l : List Int} {i j : Nat} (h : i < j) (e : gt l (i : Int) = gt l (j : Int)) : (i : Int) ≤ backF l j := by
  obtain ⟨k, h1, h2⟩ := lastIx_ge h e
  unfold backF
  rw [h1]
  dsimp only; omega
theorem gt_backL {l : List Int} {i : Nat} (h : i < l.length) : gt (backL l) (i : Int) = backF l i := by
  simp [gt, backL, backI, h]
theorem backL_len (l : List Int) : (backL l).length = l.length := backI_len l _
/-- the first place of a number in a range -/
def FI (da : List Int) (A B : Int) (i : Nat) : Prop := A ≤ (i : Int) ∧ (i : Int) < B ∧ backF da i < A
theorem FI_inj {da : List Int} {A B : Int} {i j : Nat} (hi : FI da A B i) (hj : FI da A B j) (e : gt da (i : Int) = gt da (j : Int)) : i = j := by
  rcases Nat.lt_trichotomy i j with h | h | h
  · have := backF_ge h e; have := hj.2.2; have := hi.1; omega
  · exact h
  · have := backF_ge h e.symm; have := hi.2.2; have := hj.1; omega
theorem FI_first {da : List Int} {A B : Int} (hA : 0 ≤ A) : ∀ (m i : Nat), i = m → A ≤ (i : Int) → (i : Int) < B → ∃ f, FI da A B f ∧ gt da (f : Int) = gt da (i : Int) := by
  intro m
  induction m using Nat.strongRecOn with
  | _ m ih =>
    intro i hm h1 h2
    rcases Int.lt_or_le (backF da i) A with h | h
    · exact ⟨i, ⟨h1, h2, h⟩, rfl⟩
    · obtain ⟨j, h3, h4, h5⟩ := backF_at (l := da) (i := i) (by omega)
      obtain ⟨f, h6, h7⟩ := ih j (by omega) j rfl (by omega) (by omega)
      exact ⟨f, h6, by rw [h7, h5]⟩
def inSp (s : Pr) (i : Nat) : Prop := s.1 ≤ (i : Int) ∧ (i : Int) < s.2
def msr : List Pr → Nat
  | [] => 0
  | s :: ts => 2 * (s.2 - s.1).toNat + 1 + msr ts
theorem msr_append : ∀ (a b : List Pr), msr (a ++ b) = msr a + msr b
  | [], b => by simp [msr]
  | s :: a, b => by simp only [List.cons_append, msr, msr_append a b]; omega
theorem msr_len : ∀ a : List Pr, a.length ≤ msr a
  | [] => Nat.zero_le _
  | s :: a => by have := msr_len a; simp only [msr, List.length_cons]; omega
structure SomeI (da : List Int) (A B : Int) (I : List Nat) (ts : List Pr) : Prop where
  nd : I.Nodup
  sub : ∀ i ∈ I, FI da A B i
  cov : ∀ i, FI da A B i → i ∈ I ∨ ∃ s ∈ ts, inSp s i
  out : ∀ s ∈ ts, ∀ i ∈ I, ¬ inSp s i
  dis : ts.Pairwise fun s s' => ∀ i, inSp s i → inSp s' i → False
  rng : ∀ s ∈ ts, A ≤ s.1 ∧ s.2 ≤ B
theorem SomeI.start (da : List Int) (A B : Int) : SomeI da A B [] [(A, B)] :=
  ⟨.nil, by simp, fun i hi => .inr ⟨(A, B), by simp, hi.1, hi.2.1⟩, by simp, by simp, by simp⟩
theorem SomeI.drop {da : List Int} {A B : Int} {I : List Nat} {ts : List Pr} {s : Pr} (H : SomeI da A B I (ts ++ [s])) (h : ∀ i, inSp s i → ¬ FI da A B i) : SomeI da A B I ts := by
  refine ⟨H.nd, H.sub, fun i hi => ?_, fun s' hs => H.out s' (by simp [hs]), (List.pairwise_append.1 H.dis).1, fun s' hs => H.rng s' (by simp [hs])⟩
  rcases H.cov i hi with h1 | ⟨s', h1, h2⟩
  · exact .inl h1
  · rcases List.mem_append.1 h1 with h3 | h3
    · exact .inr ⟨s', h3, h2⟩
    · rw [List.mem_singleton.1 h3] at h2
      exact absurd hi (h i h2)
theorem SomeI.split {da : List Int} {A B : Int} {I : List Nat} {ts : List Pr} {s : Pr} {r : Nat} (H : SomeI da A B I (ts ++ [s])) (hs : inSp s r) (hf : FI da A B r) : SomeI da A B (I ++ [r]) (ts ++ [(s.1, (r : Int)), ((r : Int) + 1, s.2)]) := by
  have hp := List.pairwise_append.1 H.dis
  have hr := H.rng s (by simp)
  have hout := H.out s (by simp)
  have e1 : ∀ i, inSp (s.1, (r : Int)) i → inSp s i ∧ i ≠ r := fun i h => by unfold inSp at *; dsimp only at h; omega
  have e2 : ∀ i, inSp ((r : Int) + 1, s.2) i → inSp s i ∧ i ≠ r := fun i h => by unfold inSp at *; dsimp only at h; omega
  refine ⟨?_, fun i hi => ?_, fun i hi => ?_, fun s' hs' i hi hin => ?_, ?_, fun s' hs' => ?_⟩
  · rw [List.nodup_append]
    refine ⟨H.nd, by simp, fun a ha b hb e => ?_⟩
    rw [List.mem_singleton] at hb
    subst hb; subst e
    exact hout a ha hs
  · rcases List.mem_append.1 hi with h | h
    · exact H.sub i h
    · rw [List.mem_singleton.1 h]; exact hf
  · rcases H.cov i hi with h1 | ⟨s', h1, h2⟩
    · exact .inl (by simp [h1])
    · rcases List.mem_append.1 h1 with h3 | h3
      · exact .inr ⟨s', by simp [h3], h2⟩
      · rw [List.mem_singleton.1 h3] at h2
        rcases Nat.lt_trichotomy i r with h4 | h4 | h4
        · exact .inr ⟨(s.1, (r : Int)), by simp, by unfold inSp at *; dsimp only; omega⟩
        · exact .inl (by simp [h4])
        · exact .inr ⟨((r : Int) + 1, s.2), by simp, by unfold inSp at *; dsimp only; omega⟩
  · rcases List.mem_append.1 hs' with h | h
    · rcases List.mem_append.1 hi with h3 | h3
      · exact H.out s' (by simp [h]) i h3 hin
      · rw [List.mem_singleton.1 h3] at hin
        exact hp.2.2 s' h s (by simp) r hin hs
    · simp only [List.mem_cons, List.not_mem_nil, or_false] at h
      rcases h with rfl | rfl
      · obtain ⟨h3, h4⟩ := e1 i hin
        rcases List.mem_append.1 hi with h5 | h5
        · exact hout i h5 h3
        · exact h4 (List.mem_singleton.1 h5)
      · obtain ⟨h3, h4⟩ := e2 i hin
        rcases List.mem_append.1 hi with h5 | h5
        · exact hout i h5 h3
        · exact h4 (List.mem_singleton.1 h5)
  · rw [List.pairwise_append]
    refine ⟨hp.1, ?_, fun x hx y hy i hxi hyi => ?_⟩
    · simp only [List.pairwise_cons, List.mem_singleton, forall_eq, List.not_mem_nil, false_implies, implies_true, List.Pairwise.nil, and_true]
      intro i h1 h2
      unfold inSp at *; dsimp only at *; omega
    · simp only [List.mem_cons, List.not_mem_nil, or_false] at hy
      rcases hy with rfl | rfl
      · exact hp.2.2 x hx s (by simp) i hxi (e1 i hyi).1
      · exact hp.2.2 x hx s (by simp) i hxi (e2 i hyi).1
  · rcases List.mem_append.1 hs' with h | h
    · exact H.rng s' (by simp [h])
    · simp only [List.mem_cons, List.not_mem_nil, or_false] at h
      unfold inSp at hs
      rcases h with rfl | rfl <;> dsimp only <;> omega
theorem SomeI.len {da : List Int} {A B : Int} {I : List Nat} {ts : List Pr} {n : Nat} (H : SomeI da A B I ts) (hA : 0 ≤ A) (hB : B ≤ n) : I.length ≤ n := by
  have := nodup_le I (List.range n) H.nd fun i hi => by have := H.sub i hi; unfold FI at this; rw [List.mem_range]; omega
  simpa using this
/-- so many are all -/
theorem SomeI.full {da : List Int} {A B : Int} {I : List Nat} {ts : List Pr} {n : Nat} (H : SomeI da A B I ts) (hA : 0 ≤ A) (hB : B ≤ n) (h : n ≤ I.length) : ∀ i, FI da A B i → i ∈ I := by
  intro i hi
  apply Classical.byContradiction
  intro hn
  have := nodup_le (i :: I) (List.range n) (List.nodup_cons.2 ⟨hn, H.nd⟩) fun j hj => by
    rcases List.mem_cons.1 hj with rfl | hj
    · unfold FI at hi; rw [List.mem_range]; omega
    · have := H.sub j hj; unfold FI at this; rw [List.mem_range]; omega
  simp at this; omega
theorem FI_full {da : List Int} {A B : Int} {I : List Nat} {n : Nat} (hnd : I.Nodup) (hsub : ∀ i ∈ I, FI da A B i) (hA : 0 ≤ A) (hB : B ≤ n) (h : n ≤ I.length) : ∀ i, FI da A B i → i ∈ I := by
  intro i hi
  apply Classical.byContradiction
  intro hn
  have := nodup_le (i :: I) (List.range n) (List.nodup_cons.2 ⟨hn, hnd⟩) fun j hj => by
    rcases List.mem_cons.1 hj with rfl | hj
    · unfold FI at hi; rw [List.mem_range]; omega
    · have := hsub j hj; unfold FI at this; rw [List.mem_range]; omega
  simp at this; omega
/-- what is told of some -/
structure SomeR (da : List Int) (A B most : Int) (I : List Nat) : Prop where
  nd : I.Nodup
  sub : ∀ i ∈ I, FI da A B i
  all : (∀ i, FI da A B i → i ∈ I) ∨ most ≤ I.length
  le : (I.length : Int) ≤ most ∨ I = []
def leI (x y : Int) : Bool := decide (x ≤ y)
def outL (da : List Int) (I : List Nat) : List Int := (I.map fun i => gt da ((i : Nat) : Int)).mergeSort leI
theorem sortI_sorted (l : List Int) : (l.mergeSort leI).Pairwise (· ≤ ·) := by
  have := List.pairwise_mergeSort (le := leI) (fun a b c h1 h2 => by simp only [leI, decide_eq_true_eq] at *; omega) (fun a b => by simp only [leI, Bool.or_eq_true, decide_eq_true_eq]; omega) l
  exact this.imp fun h => by simpa [leI] using h
theorem outL_docs {da : List Int} {a b : Int} {I : List Nat} (hnd : I.Nodup) (hsub : ∀ i ∈ I, FI da (max a 0) (min b da.length) i) (hall : ∀ i, FI da (max a 0) (min b da.length) i → i ∈ I) : outL da I = docI da a b da.length := by
  obtain ⟨hd1, hd2⟩ := docI_of da a b da.length
  have hperm := List.mergeSort_perm (I.map fun i => gt da ((i : Nat) : Int)) leI
  have hnd2 : (outL da I).Nodup := by
    unfold outL
    rw [hperm.nodup_iff]
    rw [List.nodup_iff_pairwise_ne, List.pairwise_map]
    exact hnd.imp_of_mem fun hx hy hne e => hne (FI_inj (hsub _ hx) (hsub _ hy) e)
  have hs : (outL da I).Pairwise (· < ·) := by
    have h1 := sortI_sorted (I.map fun i => gt da ((i : Nat) : Int))
    have h2 := List.nodup_iff_pairwise_ne.1 hnd2
    exact (h1.and h2).imp fun h => by omega
  refine sorted_eq (r := (· < ·)) (fun x y h1 h2 => by omega) _ _ hs hd1 fun x => ?_
  have hm : x ∈ outL da I ↔ x ∈ I.map fun i => gt da ((i : Nat) : Int) := hperm.mem_iff
  rw [hm, hd2, List.mem_map]
  constructor
  · rintro ⟨i, hi, rfl⟩
    have := hsub i hi
    unfold FI at this
    exact ⟨i, by omega, by omega, by omega, rfl⟩
  · rintro ⟨i, h1, h2, h3, rfl⟩
    obtain ⟨f, hf, e⟩ := FI_first (da := da) (A := max a 0) (B := min b da.length) (by omega) i i rfl (by omega) (by omega)
    exact ⟨f, hall f hf, e⟩
end Go.X
