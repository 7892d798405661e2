/- Plain: the best of a range, by a search of parts. -/
import Derived.Test.YtclbncbolhmolaaM5
namespace Go.X
open Go

abbrev Pr := Int × Int
def better (x y : Pr) : Prop := y.2 < x.2 ∨ (x.2 = y.2 ∧ x.1 < y.1)
theorem better_irrefl {x : Pr} (h : better x x) : False := by unfold better at h; omega
theorem better_asymm {x y : Pr} (h : better x y) (h' : better y x) : False := by unfold better at *; omega
/-- the numbers of a list with how often each is there, the best first -/
structure RankOf (A : List Int) (R : List Pr) : Prop where
  so : R.Pairwise better
  mem : ∀ pr, pr ∈ R ↔ pr.1 ∈ A ∧ pr.2 = (A.count pr.1 : Int)
theorem sorted_eq {α : Type} {r : α → α → Prop} (ha : ∀ x y, r x y → r y x → False) : ∀ (R S : List α), R.Pairwise r → S.Pairwise r → (∀ x, x ∈ R ↔ x ∈ S) → R = S
  | [], [], _, _, _ => rfl
  | [], y :: S, _, _, h => by have := (h y).2 (by simp); simp at this
  | x :: R, [], _, _, h => by have := (h x).1 (by simp); simp at this
  | x :: R, y :: S, h1, h2, h => by
    have hx := (h x).1 (by simp)
    have hy := (h y).2 (by simp)
    rw [List.pairwise_cons] at h1 h2
    have e : x = y := by
      rcases List.mem_cons.1 hx with e | hx
      · exact e
      · rcases List.mem_cons.1 hy with e | hy
        · exact e.symm
        · exact (ha x y (h1.1 y hy) (h2.1 x hx)).elim
    subst e
    have nd : ∀ {z : α} {L : List α}, (∀ a ∈ L, r z a) → z ∉ L := fun {z L} hz hm => ha z z (hz z hm) (hz z hm)
    rw [sorted_eq ha R S h1.2 h2.2 fun z => ?_]
    constructor
    · intro hz
      rcases List.mem_cons.1 ((h z).1 (List.mem_cons_of_mem _ hz)) with e | hz'
      · exact ((e ▸ nd h1.1) hz).elim
      · exact hz'
    · intro hz
      rcases List.mem_cons.1 ((h z).2 (List.mem_cons_of_mem _ hz)) with e | hz'
      · exact ((e ▸ nd h2.1) hz).elim
      · exact hz'
theorem RankOf.uniq {A : List Int} {R S : List Pr} (h1 : RankOf A R) (h2 : RankOf A S) : R = S :=
  sorted_eq (fun _ _ => better_asymm) R S h1.so h2.so fun x => (h1.mem x).trans (h2.mem x).symm

structure Rem (W : Nat) (A : List Int) (q : List Prt) (R : List Pr) : Prop where
  so : R.Pairwise better
  mem : ∀ pr, pr ∈ R ↔ (∃ p ∈ q, cov W p pr.1 = true) ∧ pr.1 ∈ A ∧ pr.2 = (A.count pr.1 : Int)
def apart (W : Nat) (A : List Int) (p p' : Prt) : Prop := ∀ x ∈ A, cov W p x = true → cov W p' x = true → False
def ps0 (p : Prt) : Nat := (p.b - p.a).toNat
def ps1 (W : Nat) (p : Prt) : Nat := (p.b - p.a).toNat * (W - p.lv.toNat)
def sumL (f : Prt → Nat) : List Prt → Nat
  | [] => 0
  | p :: q => f p + sumL f q
theorem sumL_perm {f : Prt → Nat} {q q' : List Prt} (h : q.Perm q') : sumL f q = sumL f q' := by
  induction h with
  | nil => rfl
  | cons x _ ih => simp only [sumL, ih]
  | swap x y l => simp only [sumL]; omega
  | trans _ _ h1 h2 => exact h1.trans h2
structure QOk (W : Nat) (l A : List Int) (q : List Prt) : Prop where
  ok : ∀ p ∈ q, PartOk W l A p ∧ p.a < p.b
  ap : q.Pairwise (apart W A)
  hp : HeapL q q.length
  sm : sumL ps0 q ≤ l.length
theorem len_le_sum : ∀ q : List Prt, (∀ p ∈ q, p.a < p.b) → q.length ≤ sumL ps0 q
  | [], _ => Nat.le_refl _
  | p :: q, h => by
    have := len_le_sum q fun x hx => h x (List.mem_cons_of_mem _ hx)
    have h1 := h p (by simp)
    simp only [sumL, ps0, List.length_cons] at *; omega
theorem QOk.len {W : Nat} {l A : List Int} {q : List Prt} (H : QOk W l A q) : q.length ≤ l.length :=
  Nat.le_trans (len_le_sum q fun p hp => (H.ok p hp).2) H.sm
theorem QOk.pb {W : Nat} {l A : List Int} {q : List Prt} (H : QOk W l A q) (hl : l.length ≤ 4194304) : ∀ x ∈ q, PB x := fun x hx => by
  have h1 := (H.ok x hx).1
  exact ⟨h1.a0, h1.ab, by have := h1.bn; omega⟩
theorem apart_symm {W : Nat} {A : List Int} {p p' : Prt} (h : apart W A p p') : apart W A p' p := fun x hx h1 h2 => h x hx h2 h1
def putQ (q : List Prt) (p : Prt) : List Prt := if p.a < p.b then pushL q p else q
theorem QOk.put {W : Nat} {l A : List Int} {q : List Prt} {p : Prt} (H : QOk W l A q) (hp : PartOk W l A p) (ha : ∀ p' ∈ q, apart W A p p') (hs : ps0 p + sumL ps0 q ≤ l.length) : QOk W l A (putQ q p) := by
  unfold putQ
  split
  · rename_i hlt
    have hperm := pushL_perm q p
    refine ⟨fun x hx => ?_, ?_, pushL_heap p H.hp, ?_⟩
    · rcases List.mem_cons.1 (hperm.mem_iff.1 hx) with rfl | hx
      · exact ⟨hp, hlt⟩
      · exact H.ok x hx
    · rw [hperm.pairwise_iff (fun h => apart_symm h), List.pairwise_cons]
      exact ⟨ha, H.ap⟩
    · rw [sumL_perm hperm]; exact hs
  · exact H
theorem sum_put {f : Prt → Nat} {q : List Prt} {p : Prt} (hf : ¬ p.a < p.b → f p = 0) : sumL f (putQ q p) = f p + sumL f q := by
  unfold putQ
  split
  · exact sumL_perm (pushL_perm q p)
  · rename_i h; rw [hf h]; simp
theorem put_cov {W : Nat} {l A : List Int} {q : List Prt} {p : Prt} (hp : PartOk W l A p) {x : Int} (hx : x ∈ A) : (∃ p' ∈ putQ q p, cov W p' x = true) ↔ cov W p x = true ∨ ∃ p' ∈ q, cov W p' x = true := by
  unfold putQ
  split
  · constructor
    · rintro ⟨p', h1, h2⟩
      rcases List.mem_cons.1 ((pushL_perm q p).mem_iff.1 h1) with rfl | h1
      · exact .inl h2
      · exact .inr ⟨p', h1, h2⟩
    · rintro (h | ⟨p', h1, h2⟩)
      · exact ⟨p, (pushL_perm q p).mem_iff.2 (by simp), h⟩
      · exact ⟨p', (pushL_perm q p).mem_iff.2 (List.mem_cons_of_mem _ h1), h2⟩
  · rename_i hn
    constructor
    · exact .inr
    · rintro (h | h)
      · have hc := hp.cnt
        have hab := hp.ab
        have : 0 < (A.filter (cov W p)).length := List.length_pos_of_mem (List.mem_filter.2 ⟨hx, h⟩)
        omega
      · exact h
theorem QOk.pop {W : Nat} {l A : List Int} {q : List Prt} (H : QOk W l A q) (h0 : 0 < q.length) : QOk W l A (popL q) ∧ (PartOk W l A (gt q ((0 : Nat) : Int)) ∧ (gt q ((0 : Nat) : Int)).a < (gt q ((0 : Nat) : Int)).b) ∧ (∀ p' ∈ popL q, apart W A (gt q ((0 : Nat) : Int)) p') ∧
    (∀ f, sumL f q = f (gt q ((0 : Nat) : Int)) + sumL f (popL q)) := by
  have hp := popL_perm h0
  have hap := (hp.pairwise_iff (fun h => apart_symm h)).1 H.ap
  rw [List.pairwise_cons] at hap
  have hsum : ∀ f, sumL f q = f (gt q ((0 : Nat) : Int)) + sumL f (popL q) := fun f => sumL_perm hp
  refine ⟨⟨fun p hp' => H.ok p (hp.mem_iff.2 (List.mem_cons_of_mem _ hp')), hap.2, popL_heap h0 H.hp, ?_⟩, H.ok _ (hp.mem_iff.2 (by simp)), hap.1, hsum⟩
  have := hsum ps0; have := H.sm; omega
theorem pop_cov {W : Nat} {q : List Prt} (h0 : 0 < q.length) {x : Int} : (∃ p' ∈ q, cov W p' x = true) ↔ cov W (gt q ((0 : Nat) : Int)) x = true ∨ ∃ p' ∈ popL q, cov W p' x = true := by
  have hp := popL_perm h0
  constructor
  · rintro ⟨p', h1, h2⟩
    rcases List.mem_cons.1 (hp.mem_iff.1 h1) with rfl | h1
    · exact .inl h2
    · exact .inr ⟨p', h1, h2⟩
  · rintro (h | ⟨p', h1, h2⟩)
    · exact ⟨_, hp.mem_iff.2 (by simp), h⟩
    · exact ⟨p', hp.mem_iff.2 (List.mem_cons_of_mem _ h1), h2⟩

/-! ### a step -/
def nodeL (W : Nat) (l : List Int) (q : List Prt) : List Prt :=
  let p := gt q ((0 : Nat) : Int)
  let f := rowBits (W - 1 - p.lv.toNat) (lvRow W l p.lv.toNat)
  putQ (putQ (popL q) (kid0 l.length f p)) (kid1 W l.length f p)
theorem step_node {W : Nat} {l A : List Int} {q : List Prt} (H : QOk W l A q) (h0 : 0 < q.length) (hlv : (gt q ((0 : Nat) : Int)).lv < W) :
    QOk W l A (nodeL W l q) ∧ (∀ R, Rem W A q R → Rem W A (nodeL W l q) R) ∧ sumL ps0 (nodeL W l q) = sumL ps0 q ∧ sumL (ps1 W) (nodeL W l q) < sumL (ps1 W) q := by
  obtain ⟨hq, ⟨hp, hlt⟩, hap, hsum⟩ := H.pop h0
  have hs0 := hsum ps0
  have hs1 := hsum (ps1 W)
  unfold nodeL
  generalize hgp : gt q ((0 : Nat) : Int) = p at *
  have hk0 := hp.kid0 hlv
  have hk1 := hp.kid1 hlv
  dsimp only
  have hcov : ∀ x, cov W p x = (cov W (kid0 l.length (rowBits (W - 1 - p.lv.toNat) (lvRow W l p.lv.toNat)) p) x || cov W (kid1 W l.length (rowBits (W - 1 - p.lv.toNat) (lvRow W l p.lv.toNat)) p) x) := fun x => kid_cov hp.lv0 hlv x
  have hapk : apart W A (kid1 W l.length (rowBits (W - 1 - p.lv.toNat) (lvRow W l p.lv.toNat)) p) (kid0 l.length (rowBits (W - 1 - p.lv.toNat) (lvRow W l p.lv.toNat)) p) := fun x _ h1 h2 => kid_apart h2 h1
  have e0 : (kid0 l.length (rowBits (W - 1 - p.lv.toNat) (lvRow W l p.lv.toNat)) p).lv = p.lv + 1 := rfl
  have e1 : (kid1 W l.length (rowBits (W - 1 - p.lv.toNat) (lvRow W l p.lv.toNat)) p).lv = p.lv + 1 := rfl
  have hsz : ps0 (kid0 l.length (rowBits (W - 1 - p.lv.toNat) (lvRow W l p.lv.toNat)) p) + ps0 (kid1 W l.length (rowBits (W - 1 - p.lv.toNat) (lvRow W l p.lv.toNat)) p) = ps0 p := by
    have c0 := hk0.cnt; have c1 := hk1.cnt; have c := hp.cnt
    have hlen : (A.filter (cov W p)).length = (A.filter (cov W (kid0 l.length (rowBits (W - 1 - p.lv.toNat) (lvRow W l p.lv.toNat)) p))).length + (A.filter (cov W (kid1 W l.length (rowBits (W - 1 - p.lv.toNat) (lvRow W l p.lv.toNat)) p))).length := by
      clear c0 c1 c hs0 hs1 hsum hap hq H
      generalize kid0 l.length (rowBits (W - 1 - p.lv.toNat) (lvRow W l p.lv.toNat)) p = k0 at *
      generalize kid1 W l.length (rowBits (W - 1 - p.lv.toNat) (lvRow W l p.lv.toNat)) p = k1 at *
      clear hk0 hk1 hp
      induction A with
      | nil => rfl
      | cons x A ih =>
        have ih := ih (fun y hy h1 h2 => hapk y (List.mem_cons_of_mem _ hy) h1 h2)
        have hx := hcov x
        have ha := hapk x (by simp)
        cases h1 : cov W k0 x <;> cases h2 : cov W k1 x
        · rw [h1, h2] at hx; simp [hx, h1, h2, ih]
        · rw [h1, h2] at hx; simp [hx, h1, h2, ih]; omega
        · rw [h1, h2] at hx; simp [hx, h1, h2, ih]; omega
        · exact (ha h2 h1).elim
    unfold ps0
    omega
  generalize kid0 l.length (rowBits (W - 1 - p.lv.toNat) (lvRow W l p.lv.toNat)) p = k0 at *
  generalize kid1 W l.length (rowBits (W - 1 - p.lv.toNat) (lvRow W l p.lv.toNat)) p = k1 at *
  have hsm := H.sm
  have z0 : ∀ x : Prt, ¬ x.a < x.b → ps0 x = 0 := fun x hx => by unfold ps0; omega
  have z1 : ∀ x : Prt, ¬ x.a < x.b → ps1 W x = 0 := fun x hx => by unfold ps1; rw [show (x.b - x.a).toNat = 0 by omega, Nat.zero_mul]
  have hq1 : QOk W l A (putQ (popL q) k0) := hq.put hk0 (fun p' hp' x hx h1 h2 => hap p' hp' x hx (by rw [hcov, h1]; rfl) h2) (by omega)
  have t0 := sum_put (q := popL q) (z0 k0)
  have t1 := sum_put (q := putQ (popL q) k0) (z0 k1)
  have u0 := sum_put (q := popL q) (z1 k0)
  have u1 := sum_put (q := putQ (popL q) k0) (z1 k1)
  refine ⟨hq1.put hk1 (fun p' hp' x hx h1 h2 => ?_) (by omega), fun R hR => ⟨hR.so, fun pr => ?_⟩, by omega, ?_⟩
  · have := (put_cov (q := popL q) hk0 hx).1 ⟨p', hp', h2⟩
    rcases this with h | ⟨p'', h3, h4⟩
    · exact hapk x hx h1 h
    · exact hap p'' h3 x hx (by rw [hcov, h1, Bool.or_true]) h4
  · rw [hR.mem pr]
    constructor
    · rintro ⟨h1, h2, h3⟩
      refine ⟨?_, h2, h3⟩
      rw [put_cov hk1 h2, put_cov hk0 h2]
      rw [pop_cov h0, hgp, hcov, Bool.or_eq_true] at h1
      rcases h1 with (h | h) | h
      · exact .inr (.inl h)
      · exact .inl h
      · exact .inr (.inr h)
    · rintro ⟨h1, h2, h3⟩
      refine ⟨?_, h2, h3⟩
      rw [put_cov hk1 h2, put_cov hk0 h2] at h1
      rw [pop_cov h0, hgp, hcov, Bool.or_eq_true]
      rcases h1 with h | h | h
      · exact .inl (.inr h)
      · exact .inl (.inl h)
      · exact .inr h
  · rw [u1, u0, hs1]
    have hl0 := hp.lv0
    have f0 : ps1 W k0 = ps0 k0 * (W - (p.lv + 1).toNat) := by unfold ps1 ps0; rw [e0]
    have f1 : ps1 W k1 = ps0 k1 * (W - (p.lv + 1).toNat) := by unfold ps1 ps0; rw [e1]
    have f : ps1 W p = ps0 p * (W - (p.lv + 1).toNat) + ps0 p := by
      unfold ps1
      rw [show W - p.lv.toNat = (W - (p.lv + 1).toNat) + 1 by omega, Nat.mul_succ]; rfl
    have hpos : 0 < ps0 p := by unfold ps0; omega
    have hm : ps0 k1 * (W - (p.lv + 1).toNat) + ps0 k0 * (W - (p.lv + 1).toNat) = ps0 p * (W - (p.lv + 1).toNat) := by rw [← Nat.add_mul, Nat.add_comm, hsz]
    omega
theorem count_filter (A : List Int) (x : Int) : A.count x = (A.filter fun y => decide (y = x)).length := by
  induction A with
  | nil => rfl
  | cons y A ih =>
    rw [List.count_cons, ih]
    by_cases h : y = x <;> simp [h]
theorem filter_le {A : List Int} {f g : Int → Bool} (h : ∀ x ∈ A, f x = true → g x = true) : (A.filter f).length ≤ (A.filter g).length := by
  rw [← List.countP_eq_length_filter, ← List.countP_eq_length_filter]
  exact List.countP_mono_left h
theorem head_of {R : List Pr} {pr0 : Pr} (hs : R.Pairwise better) (hm : pr0 ∈ R) (hb : ∀ pr ∈ R, pr = pr0 ∨ better pr0 pr) : ∃ R', R = pr0 :: R' := by
  cases R with
  | nil => simp at hm
  | cons x R =>
    rw [List.pairwise_cons] at hs
    rcases List.mem_cons.1 hm with rfl | hm
    · exact ⟨R, rfl⟩
    · rcases hb x (by simp) with rfl | h
      · exact ⟨R, rfl⟩
      · exact (better_asymm h (hs.1 pr0 hm)).elim
theorem step_leaf {W : Nat} {l A : List Int} {q : List Prt} (H : QOk W l A q) (h0 : 0 < q.length) (hlv : (gt q ((0 : Nat) : Int)).lv = W) :
    QOk W l A (popL q) ∧ (∀ R, Rem W A q R → ∃ R', R = ((gt q ((0 : Nat) : Int)).c, (gt q ((0 : Nat) : Int)).b - (gt q ((0 : Nat) : Int)).a) :: R' ∧ Rem W A (popL q) R') ∧ sumL ps0 (popL q) + ps0 (gt q ((0 : Nat) : Int)) = sumL ps0 q ∧ sumL (ps1 W) (popL q) = sumL (ps1 W) q := by
  obtain ⟨hq, ⟨hp, hlt⟩, hap, hsum⟩ := H.pop h0
  have hs0 := hsum ps0
  have hs1 := hsum (ps1 W)
  have hmin := popL_min h0 H.hp
  have hpc := fun x => pop_cov (W := W) h0 (x := x)
  generalize hgp : gt q ((0 : Nat) : Int) = p at *
  have hlvn : p.lv.toNat = W := by omega
  have hls := hp.ls
  rw [hlvn, Nat.sub_self, Int.pow_zero, Int.mul_one] at hls
  have hcv : ∀ x, cov W p x = decide (x = p.c) := fun x => by simp only [cov, hlvn, Nat.sub_self, Int.pow_zero, Int.ediv_one]
  have hcnt : (A.count p.c : Int) = p.b - p.a := by
    rw [count_filter, ← hp.cnt]
    congr 2
    exact List.filter_congr fun x _ => (hcv x).symm
  have hcA : p.c ∈ A := by
    have : 0 < A.count p.c := by omega
    exact List.count_pos_iff.1 this
  have hz1 : ps1 W p = 0 := by unfold ps1; rw [hlvn, Nat.sub_self, Nat.mul_zero]
  refine ⟨hq, fun R hR => ?_, by omega, by omega⟩
  have hm0 : (p.c, p.b - p.a) ∈ R := by
    rw [hR.mem]
    exact ⟨(hpc _).2 (.inl (by rw [hcv]; simp)), hcA, hcnt.symm⟩
  have hb : ∀ pr ∈ R, pr = (p.c, p.b - p.a) ∨ better (p.c, p.b - p.a) pr := by
    intro pr hpr
    obtain ⟨h1, h2, h3⟩ := (hR.mem pr).1 hpr
    rcases (hpc _).1 h1 with h | ⟨p', h4, h5⟩
    · rw [hcv, decide_eq_true_eq] at h
      left
      obtain ⟨s, n⟩ := pr
      dsimp only at h h3
      subst h
      rw [h3, hcnt]
    · right
      have hok := (hq.ok p' h4).1
      have hle := hmin p' h4
      have hne : pr.1 ≠ p.c := fun e => hap p' h4 pr.1 h2 (by rw [hcv, e]; simp) h5
      have hc' := hok.cnt
      have hcc : A.count pr.1 ≤ (A.filter (cov W p')).length := by
        rw [count_filter]
        exact filter_le fun x _ hx => by rw [decide_eq_true_eq] at hx; rw [hx]; exact h5
      have hlow : p'.ls ≤ pr.1 := by
        have h6 := of_decide_eq_true h5
        rw [hok.ls, ← h6]
        exact Int.ediv_mul_le _ (Int.ne_of_gt (Int.pow_pos (by decide)))
      simp only [lessP, decide_eq_false_iff_not] at hle
      unfold better
      dsimp only
      omega
  obtain ⟨R', rfl⟩ := head_of hR.so hm0 hb
  refine ⟨R', rfl, (List.pairwise_cons.1 hR.so).2, fun pr => ?_⟩
  have hnd : ∀ pr ∈ R', pr ≠ (p.c, p.b - p.a) := fun pr hpr e => better_irrefl (e ▸ (List.pairwise_cons.1 hR.so).1 pr hpr)
  constructor
  · intro hpr
    obtain ⟨h1, h2, h3⟩ := (hR.mem pr).1 (List.mem_cons_of_mem _ hpr)
    refine ⟨?_, h2, h3⟩
    rcases (hpc _).1 h1 with h | h
    · rw [hcv, decide_eq_true_eq] at h
      refine (hnd pr hpr ?_).elim
      obtain ⟨s, n⟩ := pr
      dsimp only at h h3
      subst h
      rw [h3, hcnt]
    · exact h
  · rintro ⟨⟨p', h4, h5⟩, h2, h3⟩
    rcases List.mem_cons.1 ((hR.mem pr).2 ⟨(hpc _).2 (.inr ⟨p', h4, h5⟩), h2, h3⟩) with e | h
    · exact (hap p' h4 pr.1 h2 (by rw [hcv, e]; simp) h5).elim
    · exact h
theorem rem_nil {W : Nat} {A : List Int} {R : List Pr} (h : Rem W A [] R) : R = [] := by
  cases R with
  | nil => rfl
  | cons x R => obtain ⟨⟨p, hp, _⟩, _⟩ := (h.mem x).1 (by simp); simp at hp
end Go.X
