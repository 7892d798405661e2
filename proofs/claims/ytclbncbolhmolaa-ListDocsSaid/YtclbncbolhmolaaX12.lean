/- Rows of rows. -/
import Derived.Test.YtclbncbolhmolaaX11
set_option linter.unusedSimpArgs false
set_option linter.unusedVariables false
namespace Go.X
open Go

/-- a row in memory, not nil -/
structure RowD where
  b : Nat
  c : Nat
  xs : List Int
instance : Inhabited RowD := ⟨⟨0, 0, []⟩⟩
def RowD.val (r : RowD) : Value := .slice (some ⟨r.b, 0, none⟩) r.xs.length r.c
abbrev eRD : RowD → List Value := sc RowD.val
theorem eRD_ok : EncOk eRD 1 := sc_ok fun _ => rfl
/-- rows, each for itself -/
def allR (T : TypeId) : List RowD → HP
  | [] => HP.emp
  | r :: rs => (rowP eI 1 T r.val r.b r.c r.xs).sep (allR T rs)
theorem allR_snoc {T : TypeId} {h : Heap} {r : RowD} : ∀ {rs : List RowD} {L : List HP}, Sep h (rowP eI 1 T r.val r.b r.c r.xs :: allR T rs :: L) → Sep h (allR T (rs ++ [r]) :: L)
  | [], L, H => H.join
  | x :: rs, L, H => by
    have h1 := H.swap.split
    -- x, rs, r
    have h2 := h1.front 2
    dsimp only [nthP, eraseP] at h2
    have h3 := h2.front 2
    dsimp only [nthP, eraseP] at h3
    have h4 : Sep h (rowP eI 1 T r.val r.b r.c r.xs :: allR T rs :: rowP eI 1 T x.val x.b x.c x.xs :: L) := h3.swap
    have h5 := (allR_snoc h4).swap
    exact h5.join
theorem allR_F {T : TypeId} {h : Heap} : ∀ {rs : List RowD} {L : List HP}, Sep h (allR T rs :: L) → ∀ (k : Nat) (r : RowD), rs[k]? = some r → Rd eI 1 h r.b 0 r.xs
  | [], L, _, k, r, hk => by simp at hk
  | x :: rs, L, H, 0, r, hk => by
    simp at hk; subst hk
    exact H.split.rowR eI_ok 0 rfl
  | x :: rs, L, H, k + 1, r, hk => allR_F H.split.drop k r (by simpa using hk)
/-- h'' has what h' has got since h -/
structure Kept (h h' h'' : Heap) : Prop where
  of : ∀ b, h.size ≤ b → b < h'.size → h''[b]? = h'[b]?
theorem Kept.refl (h h' : Heap) : Kept h h' h' := ⟨fun _ _ _ => rfl⟩
theorem Sep.moved {h h0 h' : Heap} {L : List HP} (H : Sep h (HP.old h0 :: L)) (e : Kept h0 h h') : Sep h' L := by
  obtain ⟨F, F1, F2, h1, h2, h3, h4⟩ := H.out
  refine ⟨F2, (Seps L).loc h4 fun b hb => e.of b ?_ ((Seps L).bd h4 b hb)⟩
  rcases Nat.lt_or_ge b h0.size with h5 | h5
  · exact (h2 b ((h3.1 b).2 h5) hb).elim
  · exact h5
theorem Kept.left {h h1 h' h2 : Heap} (e : Kept h h' h2) (h1' : Ext h1 h') : Kept h h1 h2 :=
  ⟨fun b h3 h4 => (e.of b h3 (Nat.lt_of_lt_of_le h4 h1'.size)).trans (h1'.same b h4)⟩
theorem Kept.right {h h1 h' h2 : Heap} (e : Kept h h' h2) (h1' : Ext h h1) : Kept h1 h' h2 :=
  ⟨fun b h3 h4 => e.of b (Nat.le_trans h1'.size h3) h4⟩
end Go.X
