/- The heap in separate parts. -/
import Derived.Test.YtclbncbolhmolaaX1
import Derived.Laws.AppendOwn
import Derived.Laws.MakeOwn
namespace Go.X
open Go

/-- A predicate of the heap, with the blocks of which it speaks. -/
structure HP where
  at_ : Heap → (Nat → Prop) → Prop
  loc : ∀ {h h' : Heap} {F : Nat → Prop}, at_ h F → (∀ b, F b → h'[b]? = h[b]?) → at_ h' F
  bd : ∀ {h : Heap} {F : Nat → Prop}, at_ h F → ∀ b, F b → b < h.size

def HP.emp : HP := ⟨fun _ F => ∀ b, ¬ F b, fun h _ => h, fun h b hb => (h b hb).elim⟩
def HP.pure (φ : Prop) : HP := ⟨fun _ F => φ ∧ ∀ b, ¬ F b, fun h _ => h, fun h b hb => (h.2 b hb).elim⟩
def HP.obj (b : Nat) (o : Obj) : HP :=
  ⟨fun h F => (∀ x, F x ↔ x = b) ∧ h[b]? = some o, fun ⟨h1, h2⟩ e => ⟨h1, (e b ((h1 b).2 rfl)).trans h2⟩,
   fun ⟨h1, h2⟩ x hx => by rw [(h1 x).1 hx]; exact (Array.getElem?_eq_some_iff.1 h2).1⟩
def HP.ex {α : Type} (A : α → HP) : HP :=
  ⟨fun h F => ∃ x, (A x).at_ h F, fun ⟨x, hx⟩ e => ⟨x, (A x).loc hx e⟩, fun ⟨x, hx⟩ => (A x).bd hx⟩
def HP.sep (A B : HP) : HP :=
  ⟨fun h F => ∃ F1 F2 : Nat → Prop, (∀ x, F x ↔ F1 x ∨ F2 x) ∧ (∀ x, F1 x → F2 x → False) ∧ A.at_ h F1 ∧ B.at_ h F2,
   fun ⟨F1, F2, h1, h2, h3, h4⟩ e => ⟨F1, F2, h1, h2, A.loc h3 (fun b hb => e b ((h1 b).2 (.inl hb))), B.loc h4 (fun b hb => e b ((h1 b).2 (.inr hb)))⟩,
   fun ⟨F1, F2, h1, _, h3, h4⟩ b hb => by rcases (h1 b).1 hb with h | h <;> first | exact A.bd h3 b h | exact B.bd h4 b h⟩
/-- What was there when h0 was, is as it was. -/
def HP.old (h0 : Heap) : HP :=
  ⟨fun h F => (∀ x, F x ↔ x < h0.size) ∧ h0.size ≤ h.size ∧ ∀ b, b < h0.size → h[b]? = h0[b]?,
   fun {h h' F} ⟨h1, h2, h3⟩ e => ⟨h1, by
     rcases Nat.eq_zero_or_pos h0.size with z | z
     · omega
     · have hl : h0.size - 1 < h0.size := by omega
       have hh : h'[h0.size - 1]? = h0[h0.size - 1]? := (e _ ((h1 _).2 hl)).trans (h3 _ hl)
       rw [Array.getElem?_eq_getElem hl] at hh
       have := (Array.getElem?_eq_some_iff.1 hh).1
       omega, fun b hb => (e b ((h1 b).2 hb)).trans (h3 b hb)⟩,
   fun ⟨h1, h2, _⟩ b hb => by have := (h1 b).1 hb; omega⟩

def Seps : List HP → HP
  | [] => HP.emp
  | A :: L => A.sep (Seps L)

/-- The heap has these parts, each for itself. -/
structure Sep (h : Heap) (L : List HP) : Prop where
  out : ∃ F, (Seps L).at_ h F

theorem at_congr (A : HP) {h : Heap} {F F' : Nat → Prop} (H : A.at_ h F) (e : ∀ x, F x ↔ F' x) : A.at_ h F' := by
  have : F = F' := funext fun x => propext (e x)
  rw [← this]; exact H

theorem sep_comm3 {A B C : HP} {h : Heap} {F : Nat → Prop} (H : (A.sep (B.sep C)).at_ h F) : (B.sep (A.sep C)).at_ h F := by
  obtain ⟨F1, F2, e1, d1, hA, F3, F4, e2, d2, hB, hC⟩ := H
  refine ⟨F3, fun x => F1 x ∨ F4 x, fun x => ?_, fun x h3 h14 => ?_, hB, F1, F4, fun x => Iff.rfl, fun x h1 h4 => d1 x h1 ((e2 x).2 (.inr h4)), hA, hC⟩
  · rw [e1, e2]; constructor
    · rintro (h | h | h)
      · exact .inr (.inl h)
      · exact .inl h
      · exact .inr (.inr h)
    · rintro (h | h | h)
      · exact .inr (.inl h)
      · exact .inl h
      · exact .inr (.inr h)
  · rcases h14 with h | h
    · exact d1 x h ((e2 x).2 (.inl h3))
    · exact d2 x h3 h

theorem sep_mono_r {A B C : HP} {h : Heap} {F : Nat → Prop} (hbc : ∀ F, B.at_ h F → C.at_ h F) (H : (A.sep B).at_ h F) : (A.sep C).at_ h F := by
  obtain ⟨F1, F2, e1, d1, hA, hB⟩ := H
  exact ⟨F1, F2, e1, d1, hA, hbc F2 hB⟩

def nthP : List HP → Nat → HP
  | [], _ => HP.emp
  | A :: _, 0 => A
  | _ :: L, i + 1 => nthP L i
def eraseP : List HP → Nat → List HP
  | [], _ => []
  | _ :: L, 0 => L
  | A :: L, i + 1 => A :: eraseP L i
def setP : List HP → Nat → HP → List HP
  | [], _, _ => []
  | _ :: L, 0, B => B :: L
  | A :: L, i + 1, B => A :: setP L i B

theorem emp_at (h : Heap) : HP.emp.at_ h (fun _ => False) := fun _ hb => hb

theorem front_at : ∀ (L : List HP) (i : Nat) (h : Heap) (F : Nat → Prop), (Seps L).at_ h F → ((nthP L i).sep (Seps (eraseP L i))).at_ h F
  | [], _, h, F, H => ⟨fun _ => False, F, fun x => by simp, fun _ h => h.elim, emp_at h, H⟩
  | A :: L, 0, _, _, H => H
  | A :: L, i + 1, h, F, H => by
    have := sep_mono_r (A := A) (fun F hF => front_at L i h F hF) H
    exact sep_comm3 this

section
variable {h : Heap} {L : List HP} {A B : HP}

theorem Sep.front (H : Sep h L) (i : Nat) : Sep h (nthP L i :: eraseP L i) := by
  obtain ⟨F, hF⟩ := H.out
  exact ⟨F, front_at L i h F hF⟩
theorem Sep.swap (H : Sep h (A :: B :: L)) : Sep h (B :: A :: L) := H.front 1
theorem Sep.mono_head (H : Sep h (A :: L)) (hab : ∀ F, A.at_ h F → B.at_ h F) : Sep h (B :: L) := by
  obtain ⟨F, F1, F2, e, d, ha, hl⟩ := H.out
  exact ⟨F, F1, F2, e, d, hab F1 ha, hl⟩
theorem Sep.split {A B : HP} (H : Sep h (A.sep B :: L)) : Sep h (A :: B :: L) := by
  obtain ⟨F, F1, F2, e, d, ⟨G1, G2, e', d', ha, hb⟩, hl⟩ := H.out
  refine ⟨F, G1, fun x => G2 x ∨ F2 x, fun x => by rw [e, e', or_assoc], fun x h1 h2 => ?_, ha, G2, F2, fun _ => Iff.rfl, fun x h1 h2 => d x ((e' x).2 (.inr h1)) h2, hb, hl⟩
  rcases h2 with h2 | h2
  · exact d' x h1 h2
  · exact d x ((e' x).2 (.inl h1)) h2
theorem Sep.join {A B : HP} (H : Sep h (A :: B :: L)) : Sep h (A.sep B :: L) := by
  obtain ⟨F, F1, F2, e, d, ha, G1, G2, e', d', hb, hl⟩ := H.out
  refine ⟨F, fun x => F1 x ∨ G1 x, G2, fun x => by rw [e, e', or_assoc], fun x h1 h2 => ?_, ⟨F1, G1, fun _ => Iff.rfl, fun x h1 h2 => d x h1 ((e' x).2 (.inl h2)), ha, hb⟩, hl⟩
  rcases h1 with h1 | h1
  · exact d x h1 ((e' x).2 (.inr h2))
  · exact d' x h1 h2
theorem Sep.open_ {α : Type} {A : α → HP} (H : Sep h (HP.ex A :: L)) : ∃ x, Sep h (A x :: L) := by
  obtain ⟨F, F1, F2, e, d, ⟨x, hx⟩, hl⟩ := H.out
  exact ⟨x, F, F1, F2, e, d, hx, hl⟩
theorem Sep.close {α : Type} {A : α → HP} (x : α) (H : Sep h (A x :: L)) : Sep h (HP.ex A :: L) := H.mono_head fun _ hF => ⟨x, hF⟩
theorem Sep.pureD {φ : Prop} (H : Sep h (HP.pure φ :: L)) : φ ∧ Sep h L := by
  obtain ⟨F, F1, F2, e, d, ⟨hφ, hn⟩, hl⟩ := H.out
  exact ⟨hφ, F, at_congr _ hl fun x => by rw [e]; simp [hn x]⟩
theorem Sep.pureI {φ : Prop} (hφ : φ) (H : Sep h L) : Sep h (HP.pure φ :: L) := by
  obtain ⟨F, hF⟩ := H.out
  exact ⟨F, fun _ => False, F, fun x => by simp, fun _ h => h.elim, ⟨hφ, fun _ h => h⟩, hF⟩
theorem Sep.empD (H : Sep h (HP.emp :: L)) : Sep h L := by
  obtain ⟨F, F1, F2, e, d, hn, hl⟩ := H.out
  exact ⟨F, at_congr _ hl fun x => by rw [e]; simp [hn x]⟩
theorem Sep.empI (H : Sep h L) : Sep h (HP.emp :: L) := by
  obtain ⟨F, hF⟩ := H.out
  exact ⟨F, fun _ => False, F, fun x => by simp, fun _ h => h.elim, fun _ h => h, hF⟩
theorem Sep.drop (H : Sep h (A :: L)) : Sep h L := by
  obtain ⟨F, F1, F2, e, d, ha, hl⟩ := H.out
  exact ⟨F2, hl⟩
theorem Sep.nil (h : Heap) : Sep h [] := ⟨_, emp_at h⟩
theorem Sep.head (H : Sep h (A :: L)) : ∃ F, A.at_ h F := by
  obtain ⟨F, F1, F2, e, d, ha, hl⟩ := H.out
  exact ⟨F1, ha⟩
theorem Sep.nth (H : Sep h L) (i : Nat) : ∃ F, (nthP L i).at_ h F := (H.front i).head
theorem Sep.objH {b : Nat} {o : Obj} (H : Sep h (HP.obj b o :: L)) : h[b]? = some o := by
  obtain ⟨F, hF⟩ := H.head
  exact hF.2
/-- the block at place i -/
theorem Sep.obj (H : Sep h L) (i : Nat) {b : Nat} {o : Obj} (e : nthP L i = HP.obj b o) : h[b]? = some o := by
  have := H.front i
  rw [e] at this
  exact this.objH
theorem Sep.oldH {h0 : Heap} (H : Sep h L) (i : Nat) (e : nthP L i = HP.old h0) : h0.size ≤ h.size ∧ ∀ b, b < h0.size → h[b]? = h0[b]? := by
  have := H.front i
  rw [e] at this
  obtain ⟨F, hF⟩ := this.head
  exact hF.2
theorem Sep.ne {b c : Nat} {o o' : Obj} (H : Sep h (HP.obj b o :: HP.obj c o' :: L)) : b ≠ c := by
  obtain ⟨F, F1, F2, e, d, ha, G1, G2, e', d', hb, hl⟩ := H.out
  intro hbc
  exact d b ((ha.1 b).2 rfl) ((e' b).2 (.inl ((hb.1 b).2 hbc)))
theorem Sep.ne_old {b : Nat} {o : Obj} {h0 : Heap} (H : Sep h (HP.obj b o :: HP.old h0 :: L)) : h0.size ≤ b := by
  obtain ⟨F, F1, F2, e, d, ha, G1, G2, e', d', hb, hl⟩ := H.out
  rcases Nat.lt_or_ge b h0.size with hlt | hge
  · exact (d b ((ha.1 b).2 rfl) ((e' b).2 (.inl ((hb.1 b).2 hlt)))).elim
  · exact hge

/-- One block is written anew. -/
theorem Sep.set0 {b : Nat} {o o' : Obj} (H : Sep h (HP.obj b o :: L)) : Sep (h.setIfInBounds b o') (HP.obj b o' :: L) := by
  obtain ⟨F, F1, F2, e, d, ha, hl⟩ := H.out
  have hb : b < h.size := (Array.getElem?_eq_some_iff.1 ha.2).1
  refine ⟨F, F1, F2, e, d, ⟨ha.1, by simp [hb]⟩, (Seps L).loc hl fun x hx => ?_⟩
  have hne : b ≠ x := fun e' => d x ((ha.1 x).2 e'.symm) hx
  simp [Array.getElem?_setIfInBounds_ne hne]
theorem setP_front : ∀ (L : List HP) (i : Nat) (B : HP) (h : Heap), i < L.length → Sep h (B :: eraseP L i) → Sep h (setP L i B)
  | [], _, _, _, hi, _ => absurd hi (by simp)
  | _ :: _, 0, _, _, _, H => H
  | A :: L, i + 1, B, h, hi, H => by
    have H' : Sep h (A :: B :: eraseP L i) := Sep.swap H
    obtain ⟨F, F1, F2, e, d, ha, hl⟩ := H'.out
    have := setP_front L i B h (by simpa using hi) ⟨F2, hl⟩
    -- keep the footprint: redo with the very footprint
    have key : ∀ (L : List HP) (i : Nat) (F : Nat → Prop), i < L.length → (Seps (B :: eraseP L i)).at_ h F → (Seps (setP L i B)).at_ h F := by
      intro L
      induction L with
      | nil => intro i F hi; exact absurd hi (by simp)
      | cons A L ih =>
        intro i F hi hF
        cases i with
        | zero => exact hF
        | succ i => exact sep_mono_r (A := A) (fun F hF => ih i F (by simpa using hi) hF) (sep_comm3 hF)
    exact ⟨F, F1, F2, e, d, ha, key L i F2 (by simpa using hi) hl⟩
theorem Sep.set {b : Nat} {o o' : Obj} (H : Sep h L) (i : Nat) (hi : Nat.blt i L.length = true) (e : nthP L i = HP.obj b o) : Sep (h.setIfInBounds b o') (setP L i (HP.obj b o')) := by
  have H' := H.front i
  rw [e] at H'
  exact setP_front L i _ _ (by simpa [Nat.blt_eq] using hi) (H'.set0 (o' := o'))
/-- A new block. -/
theorem Sep.push (H : Sep h L) (o : Obj) : Sep (h.push o) (HP.obj h.size o :: L) := by
  obtain ⟨F, hF⟩ := H.out
  have hb := (Seps L).bd hF
  refine ⟨fun x => x = h.size ∨ F x, fun x => x = h.size, F, fun _ => Iff.rfl, fun x h1 h2 => ?_, ⟨fun _ => Iff.rfl, by simp⟩, (Seps L).loc hF fun x hx => ?_⟩
  · have := hb x h2; omega
  · have := hb x hx
    rw [Array.getElem?_push]
    rw [if_neg (by omega)]
/-- The heap has changed in new blocks alone. -/
theorem Sep.grow {h' : Heap} (H : Sep h L) (hs : ∀ b, b < h.size → h'[b]? = h[b]?) : Sep h' L := by
  obtain ⟨F, hF⟩ := H.out
  exact ⟨F, (Seps L).loc hF fun b hb => hs b ((Seps L).bd hF b hb)⟩
theorem Sep.start (h : Heap) : Sep h [HP.old h] :=
  ⟨fun x => x < h.size, fun x => x < h.size, fun _ => False, fun x => by simp, fun _ _ h => h, ⟨fun _ => Iff.rfl, Nat.le_refl _, fun _ _ => rfl⟩, fun _ h => h⟩
end

/-- A block of cells. -/
abbrev blk (b : Nat) (cs : List Value) (T : TypeId) : HP := HP.obj b (.cells cs.toArray T (0, 0))

theorem cellH_blk {h : Heap} {b o : Nat} {cs : List Value} {T : TypeId} {z : Nat × Nat} {v : Value} (hb : h[b]? = some (.cells cs.toArray T z)) (hv : cs[o]? = some v) : cellH h b o = some v := by
  simp [cellH, hb, hv]
theorem cellH_old {h h0 : Heap} {b o : Nat} {v : Value} (ho : ∀ b, b < h0.size → h[b]? = h0[b]?) (hc : cellH h0 b o = some v) : cellH h b o = some v := by
  have hb : b < h0.size := by
    unfold cellH at hc
    rcases Nat.lt_or_ge b h0.size with hl | hl
    · exact hl
    · rw [Array.getElem?_eq_none hl] at hc; cases hc
  unfold cellH at *
  rw [ho b hb]; exact hc
theorem cellH_lt {h : Heap} {b o : Nat} {v : Value} (hc : cellH h b o = some v) : b < h.size := by
  unfold cellH at hc
  rcases Nat.lt_or_ge b h.size with hl | hl
  · exact hl
  · rw [Array.getElem?_eq_none hl] at hc; cases hc
/-- What was in h is in h', too. -/
structure Ext (h h' : Heap) : Prop where
  size : h.size ≤ h'.size
  same : ∀ c, c < h.size → h'[c]? = h[c]?
theorem Ext.refl (h : Heap) : Ext h h := ⟨Nat.le_refl _, fun _ _ => rfl⟩
theorem Ext.trans {a b c : Heap} (h1 : Ext a b) (h2 : Ext b c) : Ext a c := ⟨Nat.le_trans h1.size h2.size, fun i hi => (h2.same i (Nat.lt_of_lt_of_le hi h1.size)).trans (h1.same i hi)⟩
theorem Ext.cell {h h' : Heap} (H : Ext h h') {b o : Nat} {v : Value} (hc : cellH h b o = some v) : cellH h' b o = some v := cellH_old H.same hc
theorem Ext.get {h h' : Heap} (H : Ext h h') {b : Nat} {o : Obj} (hb : h[b]? = some o) : h'[b]? = some o := (H.same b (Array.getElem?_eq_some_iff.1 hb).1).trans hb
theorem Sep.ext {h h0 : Heap} {L : List HP} (H : Sep h L) (i : Nat) (e : nthP L i = HP.old h0) : Ext h0 h := ⟨(H.oldH i e).1, (H.oldH i e).2⟩
theorem Sep.extend {h h' : Heap} {L : List HP} (H : Sep h L) (e : Ext h h') : Sep h' L := H.grow e.same
theorem Ext.push (h : Heap) (o : Obj) : Ext h (h.push o) := ⟨by simp, fun c hc => by rw [Array.getElem?_push, if_neg (by omega)]⟩
theorem Ld.ext {P : Program} {T : TypeId} {h h' : Heap} {b o : Nat} {v : Value} (H : Ld P T h b o v) (e : Ext h h') : Ld P T h' b o v := by
  rcases H.out with ⟨hT, hc⟩ | ⟨cs, hT, rfl, hc⟩
  · exact ⟨.inl ⟨hT, e.cell hc⟩⟩
  · exact ⟨.inr ⟨cs, hT, rfl, fun j v hj => e.cell (hc j v hj)⟩⟩
end Go.X
