/- Plain: the document's answers of layers 13 and 18, by insertion. -/
import Derived.Test.YtclbncbolhmolaaM6
namespace Go.X
open Go

/-- put before the first that does not pass -/
def insW {α : Type} (p : α → Bool) (x : α) (xs : List α) : List α := xs.takeWhile p ++ x :: xs.dropWhile p
theorem while_at {α : Type} (p : α → Bool) : ∀ (xs : List α) (k : Nat), k ≤ xs.length → (∀ j y, j < k → xs[j]? = some y → p y = true) → (∀ y, xs[k]? = some y → p y = false) → xs.takeWhile p = xs.take k ∧ xs.dropWhile p = xs.drop k
  | [], k, h, _, _ => by simp
  | x :: xs, 0, _, _, h2 => by have := h2 x rfl; simp [this]
  | x :: xs, k + 1, h, h1, h2 => by
    have hx := h1 0 x (by omega) rfl
    have := while_at p xs k (by simpa using h) (fun j y hj hy => h1 (j + 1) y (by omega) (by simpa using hy)) (fun y hy => h2 y (by simpa using hy))
    simp [hx, this]
theorem insW_perm {α : Type} (p : α → Bool) (x : α) (xs : List α) : (insW p x xs).Perm (x :: xs) := by
  unfold insW
  refine List.perm_middle.trans ?_
  rw [List.takeWhile_append_dropWhile]
theorem insW_mem {α : Type} {p : α → Bool} {x y : α} {xs : List α} : y ∈ insW p x xs ↔ y = x ∨ y ∈ xs := by rw [(insW_perm p x xs).mem_iff, List.mem_cons]
theorem takeWhile_mem {α : Type} {p : α → Bool} {y : α} : ∀ {xs : List α}, y ∈ xs.takeWhile p → p y = true
  | [], h => by simp at h
  | x :: xs, h => by
    rw [List.takeWhile_cons] at h
    split at h
    · rename_i hx
      rcases List.mem_cons.1 h with rfl | h
      · exact hx
      · exact takeWhile_mem h
    · simp at h
/-- insertion keeps a list in order -/
theorem insW_sorted {α : Type} {r : α → α → Prop} {p : α → Bool} {x : α} {xs : List α} (ht : ∀ {a b c}, r a b → r b c → r a c) (h1 : ∀ y ∈ xs, p y = true → r y x) (h2 : ∀ y ∈ xs, p y = false → r x y) (hs : xs.Pairwise r) : (insW p x xs).Pairwise r := by
  have hperm : xs = xs.takeWhile p ++ xs.dropWhile p := (List.takeWhile_append_dropWhile).symm
  have hs' := hs
  rw [hperm, List.pairwise_append] at hs'
  obtain ⟨s1, s2, s3⟩ := hs'
  unfold insW
  rw [List.pairwise_append, List.pairwise_cons]
  have hd : ∀ y ∈ xs.dropWhile p, r x y := by
    intro y hy
    cases hdw : xs.dropWhile p with
    | nil => rw [hdw] at hy; simp at hy
    | cons z zs =>
      have hz : p z = false := by
        have := List.head?_dropWhile_not p xs
        rw [hdw] at this
        simpa using this
      have hzx : z ∈ xs := by rw [hperm, hdw]; simp
      rw [hdw] at hy s2
      rcases List.mem_cons.1 hy with rfl | hy
      · exact h2 y hzx hz
      · exact ht (h2 z hzx hz) ((List.pairwise_cons.1 s2).1 y hy)
  refine ⟨s1, ⟨hd, s2⟩, fun a ha b hb => ?_⟩
  have hax : a ∈ xs := by rw [hperm]; exact List.mem_append_left _ ha
  rcases List.mem_cons.1 hb with rfl | hb
  · exact h1 a hax (takeWhile_mem ha)
  · exact s3 a ha b hb

def isort (l : List Int) : List Int := l.foldl (fun out x => insW (fun y => decide (y ≤ x)) x out) []
theorem isort_gen : ∀ (l out : List Int), out.Pairwise (· ≤ ·) → (l.foldl (fun out x => insW (fun y => decide (y ≤ x)) x out) out).Pairwise (· ≤ ·) ∧ (l.foldl (fun out x => insW (fun y => decide (y ≤ x)) x out) out).Perm (l ++ out)
  | [], out, h => ⟨h, .refl _⟩
  | x :: l, out, h => by
    have h1 := insW_sorted (r := (· ≤ ·)) (p := fun y => decide (y ≤ x)) (x := x) (xs := out) (fun h h' => Int.le_trans h h') (fun y _ hy => of_decide_eq_true hy) (fun y _ hy => by have := of_decide_eq_false hy; omega) h
    obtain ⟨g1, g2⟩ := isort_gen l _ h1
    refine ⟨g1, g2.trans ?_⟩
    refine ((insW_perm _ x out).append_left l).trans ?_
    exact List.perm_middle
theorem isort_sorted (l : List Int) : (isort l).Pairwise (· ≤ ·) := (isort_gen l [] .nil).1
theorem isort_perm (l : List Int) : (isort l).Perm l := by
  have := (isort_gen l [] .nil).2
  rw [List.append_nil] at this
  exact this

/-- a rising list's next number among the pairs -/
def addP (out : List Pr) (x : Int) : List Pr :=
  if 0 < out.length ∧ (gt out ((out.length - 1 : Nat) : Int)).1 = x then out.set (out.length - 1) ((gt out ((out.length - 1 : Nat) : Int)).1, (gt out ((out.length - 1 : Nat) : Int)).2 + 1) else out ++ [(x, 1)]
structure PairsOf (s : List Int) (ps : List Pr) : Prop where
  so : ps.Pairwise fun x y => x.1 < y.1
  mem : ∀ pr, pr ∈ ps ↔ pr.1 ∈ s ∧ pr.2 = (s.count pr.1 : Int)
theorem PairsOf.nil : PairsOf [] [] := ⟨.nil, fun pr => by simp⟩
theorem PairsOf.add {s : List Int} {ps : List Pr} {x : Int} (H : PairsOf s ps) (hx : ∀ y ∈ s, y ≤ x) : PairsOf (s ++ [x]) (addP ps x) := by
  have hcnt : ∀ y, ((s ++ [x]).count y : Int) = s.count y + if y = x then 1 else 0 := by
    intro y
    rw [List.count_append, List.count_singleton]
    by_cases h : y = x
    · subst h; simp
    · have : (x == y) = false := by simpa using Ne.symm h
      simp [h, this]
  have hin : ∀ y ∈ s, (y, (s.count y : Int)) ∈ ps := fun y hy => (H.mem _).2 ⟨hy, rfl⟩
  rcases List.eq_nil_or_concat ps with rfl | ⟨qs, last, rfl⟩
  · have hs : s = [] := by
      cases s with
      | nil => rfl
      | cons y s => have := hin y (by simp); simp at this
    subst hs
    refine ⟨by simp [addP], fun pr => ?_⟩
    obtain ⟨a, b⟩ := pr
    simp only [addP, List.length_nil, Nat.lt_irrefl, false_and, if_false, List.nil_append, List.mem_singleton, Prod.mk.injEq]
    have := hcnt a
    simp only [List.nil_append, List.count_nil] at this
    constructor
    · rintro ⟨rfl, rfl⟩; simp
    · rintro ⟨rfl, h⟩; exact ⟨rfl, by rw [h]; simp⟩
  · have hso := H.so
    rw [List.concat_eq_append] at *
    rw [List.pairwise_append] at hso
    obtain ⟨q1, _, q3⟩ := hso
    have hq3 : ∀ a ∈ qs, a.1 < last.1 := fun a ha => q3 a ha last (by simp)
    have hg : gt (qs ++ [last]) (((qs ++ [last]).length - 1 : Nat) : Int) = last := by simp [gt]
    obtain ⟨hl1, hl2⟩ := (H.mem last).1 (by simp)
    unfold addP
    rw [hg]
    by_cases he : last.1 = x
    · rw [if_pos ⟨by simp, he⟩]
      have hset : (qs ++ [last]).set ((qs ++ [last]).length - 1) (last.1, last.2 + 1) = qs ++ [(last.1, last.2 + 1)] := by simp
      rw [hset]
      refine ⟨?_, fun pr => ?_⟩
      · rw [List.pairwise_append]
        exact ⟨q1, by simp, fun a ha b hb => by rw [List.mem_singleton.1 hb]; exact hq3 a ha⟩
      · obtain ⟨a, b⟩ := pr
        have hm := H.mem (a, b)
        have hm2 := H.mem (a, b - 1)
        have hc := hcnt a
        dsimp only at hm hm2
        simp only [List.mem_append, List.mem_singleton] at hm hm2 ⊢
        rw [hc]
        by_cases hax : a = x
        · subst hax
          rw [if_pos rfl]
          constructor
          · rintro (h | h)
            · have := hq3 _ h; dsimp only at this; omega
            · have e1 := congrArg Prod.fst h; have e2 := congrArg Prod.snd h
              dsimp only at e1 e2
              exact ⟨.inr rfl, by rw [e2, hl2, ← e1]⟩
          · rintro ⟨_, h⟩
            right
            rw [h, ← he, ← hl2]
        · rw [if_neg hax, Int.add_zero]
          have hne : ∀ z, (a, b) ≠ (last.1, z) := fun z h => hax (by have := congrArg Prod.fst h; dsimp only at this; omega)
          have hne' : (a, b) ≠ last := fun h => hax (by rw [← he, ← h])
          constructor
          · rintro (h | h)
            · obtain ⟨h1, h2⟩ := hm.1 (.inl h); exact ⟨.inl h1, h2⟩
            · exact (hne _ h).elim
          · rintro ⟨h1 | h1, h2⟩
            · rcases hm.2 ⟨h1, h2⟩ with h | h
              · exact .inl h
              · exact (hne' h).elim
            · exact (hax h1).elim
    · rw [if_neg (fun h => he h.2)]
      have hlx : last.1 < x := by have := hx _ hl1; omega
      have hxs : x ∉ s := by
        intro hm
        rcases List.mem_append.1 (hin x hm) with h | h
        · have := hq3 _ h; dsimp only at this; omega
        · have := congrArg Prod.fst (List.mem_singleton.1 h); dsimp only at this; omega
      refine ⟨?_, fun pr => ?_⟩
      · rw [List.pairwise_append]
        refine ⟨H.so, by simp, fun a ha b hb => ?_⟩
        rw [List.mem_singleton.1 hb]
        rcases List.mem_append.1 ha with h | h
        · have := hq3 a h; dsimp only; omega
        · rw [List.mem_singleton.1 h]; exact hlx
      · obtain ⟨a, b⟩ := pr
        have hm := H.mem (a, b)
        have hc := hcnt a
        dsimp only at hm
        rw [List.mem_append, hm, List.mem_append, List.mem_singleton, List.mem_singleton, hc]
        by_cases hax : a = x
        · subst hax
          have h0 : s.count a = 0 := List.count_eq_zero.2 hxs
          rw [h0, if_pos rfl]
          constructor
          · rintro (⟨h, _⟩ | h)
            · exact (hxs h).elim
            · have := congrArg Prod.snd h; dsimp only at this; exact ⟨.inr rfl, by omega⟩
          · rintro ⟨_, h⟩; right; dsimp only at h; rw [h]; rfl
        · rw [if_neg hax, Int.add_zero]
          constructor
          · rintro (⟨h1, h2⟩ | h)
            · exact ⟨.inl h1, h2⟩
            · exact (hax (congrArg Prod.fst h)).elim
          · rintro ⟨h1 | h1, h2⟩
            · exact .inl ⟨h1, h2⟩
            · exact (hax h1).elim
theorem pairs_gen : ∀ (t s : List Int) (ps : List Pr), (s ++ t).Pairwise (· ≤ ·) → PairsOf s ps → PairsOf (s ++ t) (t.foldl addP ps)
  | [], s, ps, _, H => by simpa using H
  | x :: t, s, ps, h, H => by
    have h1 := (List.pairwise_append.1 h).2.2
    have := pairs_gen t (s ++ [x]) (addP ps x) (by simpa using h) (H.add fun y hy => h1 y hy x (by simp))
    simpa using this
def pairsL (l : List Int) : List Pr := (isort l).foldl addP []
theorem pairsL_of (l : List Int) : PairsOf l (pairsL l) := by
  have h1 := pairs_gen (isort l) [] [] (by simpa using isort_sorted l) .nil
  rw [List.nil_append] at h1
  exact ⟨h1.so, fun pr => by rw [show pairsL l = (isort l).foldl addP [] from rfl, h1.mem pr, (isort_perm l).mem_iff, (isort_perm l).count_eq]⟩
def rankedL (l : List Int) : List Pr := (pairsL l).foldl (fun out p => insW (fun o => decide (p.2 ≤ o.2)) p out) []
theorem better_trans {x y z : Pr} (h : better x y) (h' : better y z) : better x z := by unfold better at *; omega
theorem ranked_gen : ∀ (ps out : List Pr), out.Pairwise better → ps.Pairwise (fun x y => x.1 < y.1) → (∀ o ∈ out, ∀ p ∈ ps, o.1 < p.1) →
    (ps.foldl (fun out p => insW (fun o => decide (p.2 ≤ o.2)) p out) out).Pairwise better ∧ ∀ pr, pr ∈ ps.foldl (fun out p => insW (fun o => decide (p.2 ≤ o.2)) p out) out ↔ pr ∈ ps ∨ pr ∈ out
  | [], out, h, _, _ => ⟨h, fun pr => by simp⟩
  | p :: ps, out, h, hp, ho => by
    rw [List.pairwise_cons] at hp
    have h1 := insW_sorted (r := better) (p := fun o => decide (p.2 ≤ o.2)) (x := p) (xs := out) better_trans
      (fun y hy hd => by have := of_decide_eq_true hd; have := ho y hy p (by simp); unfold better; omega)
      (fun y hy hd => by have := of_decide_eq_false hd; unfold better; omega) h
    obtain ⟨g1, g2⟩ := ranked_gen ps _ h1 hp.2 (fun o hm p' hp' => by
      rcases insW_mem.1 hm with rfl | hm
      · exact hp.1 p' hp'
      · exact ho o hm p' (List.mem_cons_of_mem _ hp'))
    refine ⟨g1, fun pr => ?_⟩
    rw [List.foldl_cons, g2 pr, insW_mem, List.mem_cons]
    constructor
    · rintro (h | h | h) <;> simp [h]
    · rintro ((h | h) | h) <;> simp [h]
theorem rankedL_of (l : List Int) : RankOf l (rankedL l) := by
  have h := pairsL_of l
  obtain ⟨g1, g2⟩ := ranked_gen (pairsL l) [] .nil h.so (by simp)
  exact ⟨g1, fun pr => by rw [show rankedL l = (pairsL l).foldl (fun out p => insW (fun o => decide (p.2 ≤ o.2)) p out) [] from rfl, g2 pr, h.mem pr]; simp⟩
end Go.X
