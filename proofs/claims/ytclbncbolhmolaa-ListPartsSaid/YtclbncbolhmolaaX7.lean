/- More rules: literals of slices, an element's store, places in the list of parts. -/
import Derived.Test.YtclbncbolhmolaaX6
namespace Go.X
open Go

def insP : Nat → HP → List HP → List HP
  | 0, A, L => A :: L
  | _ + 1, A, [] => [A]
  | i + 1, A, B :: L => B :: insP i A L
theorem ins_at : ∀ (i : Nat) (L : List HP) (A : HP) (h : Heap) (F : Nat → Prop), (Seps (A :: L)).at_ h F → (Seps (insP i A L)).at_ h F
  | 0, _, _, _, _, H => H
  | _ + 1, [], _, _, _, H => H
  | i + 1, B :: L, A, h, _, H => sep_mono_r (A := B) (fun F hF => ins_at i L A h F hF) (sep_comm3 H)
theorem Sep.ins {h : Heap} {A : HP} {L : List HP} (H : Sep h (A :: L)) (i : Nat) : Sep h (insP i A L) := by
  obtain ⟨F, hF⟩ := H.out
  exact ⟨F, ins_at i L A h F hF⟩

/-- some parts, each named by its place among those that are left -/
def selP : List Nat → List HP → List HP
  | [], _ => []
  | i :: is, L => nthP L i :: selP is (eraseP L i)
theorem sel_at : ∀ (is : List Nat) (L : List HP) (h : Heap) (F : Nat → Prop), (Seps L).at_ h F → ∃ F', (∀ x, F' x → F x) ∧ (Seps (selP is L)).at_ h F'
  | [], _, h, F, _ => ⟨fun _ => False, fun _ hx => hx.elim, emp_at h⟩
  | i :: is, L, h, F, H => by
    obtain ⟨F1, F2, e, d, hA, hB⟩ := front_at L i h F H
    obtain ⟨F', hs, hF'⟩ := sel_at is _ h F2 hB
    exact ⟨fun x => F1 x ∨ F' x, fun x hx => (e x).2 (hx.imp id (hs x)), F1, F', fun _ => Iff.rfl, fun x h1 h2 => d x h1 (hs x h2), hA, hF'⟩
theorem Sep.sel {h : Heap} {L : List HP} (H : Sep h L) (is : List Nat) : Sep h (selP is L) := by
  obtain ⟨F, hF⟩ := H.out
  obtain ⟨F', _, h'⟩ := sel_at is L h F hF
  exact ⟨F', h'⟩
theorem Sep.rowV {α : Type} {enc : α → List Value} {sz : Nat} {T : TypeId} {v : Value} {b c : Nat} {xs : List α} {h : Heap} {L : List HP} (he : EncOk enc sz) (H : Sep h L) (i : Nat) (e : nthP L i = rowP enc sz T v b c xs) : SlV v b 0 xs.length c := (H.row he i e).1
theorem Sep.rowR {α : Type} {enc : α → List Value} {sz : Nat} {T : TypeId} {v : Value} {b c : Nat} {xs : List α} {h : Heap} {L : List HP} (he : EncOk enc sz) (H : Sep h L) (i : Nat) (e : nthP L i = rowP enc sz T v b c xs) : Rd enc sz h b 0 xs := (H.row he i e).2.1

theorem fill_gen (place : Nat → Option (Nat × Nat)) (pl : List (Nat × Nat)) (hp : ∀ (i : Nat) x, pl[i]? = some x → place i = some x) : ∀ (parts : List (Nat × Value)) (cs : List Value) (out : List Value), fillL pl cs parts = some out →
    Instr.fill place cs.toArray parts = some out.toArray := by
  intro parts
  induction parts with
  | nil => intro cs out h; simp only [fillL, Option.some.injEq] at h; simp [Instr.fill, h]
  | cons p parts ih =>
    obtain ⟨i, v⟩ := p
    intro cs out h
    have h1 := fill_eq pl [(i, v)] cs
    simp only [fillL] at h
    cases hpl : pl[i]? with
    | none => rw [hpl] at h; cases h
    | some os =>
      obtain ⟨off, size⟩ := os
      rw [hpl] at h
      simp only at h
      split at h
      · rename_i hc
        have h2 := h1 (putL cs off v.cells.toList) (by simp only [fillL, hpl]; rw [if_pos hc])
        have h3 := ih _ out h
        simp only [Instr.fill, hpl] at h2
        simp only [Instr.fill, hp i _ hpl]
        split at h2
        · cases h2
        · rename_i hne
          rw [if_neg hne]
          rw [Option.some.inj h2]
          exact h3
      · cases h

def plA : Nat → Nat → Nat → List (Nat × Nat)
  | 0, _, _ => []
  | n + 1, k, sz => (k * sz, sz) :: plA n (k + 1) sz
theorem plA_get : ∀ (n k sz i : Nat) x, (plA n k sz)[i]? = some x → x = ((k + i) * sz, sz)
  | 0, _, _, _, _, h => by simp [plA] at h
  | n + 1, k, sz, 0, x, h => by simp [plA] at h; exact h.symm
  | n + 1, k, sz, i + 1, x, h => by
    simp only [plA, List.getElem?_cons_succ] at h
    have := plA_get n (k + 1) sz i x h
    rw [this]; congr 2; omega
def zcells : Nat → List Value → List Value
  | 0, _ => []
  | n + 1, z => z ++ zcells n z
theorem zcells_eq (z : List Value) : ∀ n, zcells n z = (List.replicate n ()).flatMap fun _ => z
  | 0 => rfl
  | n + 1 => by simp [zcells, List.replicate_succ, zcells_eq z n]

section
variable {P : Program} {o : Oper} {r : Rg} {h : Heap} {S : Heap → Prop} {x y : Operand}
theorem x_buildSlice {T e n sz by_ : Nat} {z : Value} {zl cs : List Value} {parts : List (Nat × Operand)} {L : List HP} (ho : o.op = .buildSlice T n parts.toArray) (ht : P.underlying T = some (.slice e)) (hi : infoT P e = some (some z, sz, by_))
    (hz : z.cells.toList = zl) (hzs : z.cells.size = sz) (hn : Nat.ble (n * sz) 16777216 = true) (hf : fillL (plA n 0 sz) (zcells n zl) (opsL r parts) = some cs) (H : Sep h L) :
    Ex P o r h (fun v h' => v = .slice (some ⟨h.size, 0, none⟩) n n ∧ (h'.size = h.size + 1 ∧ Ext h h') ∧ Sep h' (blk h.size cs e :: L)) :=
  Ex.of_run fun E w hw => by
    obtain ⟨i, h1, h2, h3, h4⟩ := infoT_some hi
    have hn' : ¬ n * sz > 2 ^ 24 := by have : n * sz ≤ 16777216 := by simpa using hn
                                       omega
    have hg : ∀ (i : Nat) x, (plA n 0 sz)[i]? = some x → (fun i => some (i * sz, sz)) i = some x := fun i x hx => by rw [plA_get n 0 sz i x hx]; simp
    have hfill := fill_gen (fun i => some (i * sz, sz)) (plA n 0 sz) hg _ _ _ hf
    rw [opsL_eq] at hfill
    have hmk : (madeCells z.cells (n * sz)) = (zcells n zl).toArray := by
      have := madeCells_take (enc := fun _ : Unit => zl) (x0 := ()) hz hzs n (Nat.le_refl _)
      have hs : (madeCells z.cells (n * sz)).toList.length = n * sz := by simp [size_madeCells]
      rw [List.take_of_length_le (by omega)] at this
      rw [zcells_eq, ← this]
    refine ⟨_, { w with heap := w.heap.push (.cells cs.toArray e (0, 0)) }, h.push (.cells cs.toArray e (0, 0)), ?_, ⟨by simp [hw.heap], hw.os, hw.tape, hw.output⟩, rfl, ⟨by simp, Ext.push _ _⟩, H.push _⟩
    by_cases h0 : n * sz = 0
    · have hz0 : zcells n zl = [] := by
        have : (zcells n zl).length = n * sz := by
          rw [← size_madeCells z.cells (n * sz), hmk]; simp
        exact List.eq_nil_of_length_eq_zero (by omega)
      rw [hz0] at hfill
      rw [← h3] at hfill hn' h0
      have hr0 : (Array.map (fun _ : Nat => (default : Value)) (Array.range (n * i.size))) = #[] := by rw [h0]; simp
      simp [execOp, ho, Instr.buildSlice, run_underlying ht, sizeOf, typeInfo, h1, hn', newRow]
      rw [if_pos h0, hr0, hfill]
      simp
      rw [← hw.heap]
    · have hmk' := hmk
      unfold madeCells at hmk'
      rw [← h3] at hfill hn' hmk' h0
      simp [execOp, ho, Instr.buildSlice, run_underlying ht, sizeOf, typeInfo, zeroValue, h1, h2, hn', hmk', hfill, newRow]
      rw [if_neg h0, ← hw.heap]

theorem SlV.cells {v : Value} {b p n c : Nat} (hs : SlV v b p n c) : v.cells = #[v] := by obtain ⟨a, rfl, _⟩ := hs.out; rfl
theorem SlV.one {v : Value} {b p n c : Nat} (hs : SlV v b p n c) : v.oneCell' = true := by obtain ⟨a, rfl, _⟩ := hs.out; rfl
theorem x_storeV {T Tb : TypeId} {b p : Nat} {cur : List Value} {v : Value} {L : List HP} {b' p' n' c' : Nat} (ho : o.op = .store T x y) (hx : ev r x = .pointer (some ⟨b, p, none⟩)) (hy : ev r y = v) (hs : SlV v b' p' n' c') (hT : szT P T = some 1)
    (H : Sep h L) (i : Nat) (hi : Nat.blt i L.length = true) (e : nthP L i = blk b cur Tb) (hp : Nat.blt p cur.length = true) :
    Ex P o r h (fun v' h' => v' = undef ∧ h'.size = h.size ∧ Sep h' (setP L i (blk b (cur.set p v) Tb))) :=
  x_store ho hx hy hs.cells hT hs.one H i hi e hp
theorem one_maxLen {α : Type} (a : α) : [a].length ≤ maxLen := by simp [maxLen]
theorem x_makeN {α : Type} {enc : α → List Value} {sz by_ : Nat} {T e : TypeId} {z : Value} {x0 : α} {L : List HP} {k k' : IntKind} {n c : Nat} (ho : o.op = .makeSlice T x y) (ht : P.underlying T = some (.slice e)) (hi : infoT P e = some (some z, sz, by_))
    (hz : z.cells.toList = enc x0) (hzs : z.cells.size = sz) (hx : ev r x = .int k n) (hy : ev r y = .int k' c) (hnc : n ≤ c) (hb : by_ * c ≤ 281474976710656) (hm : c ≤ 9223372036854775807) (H : Sep h L) :
    Ex P o r h (fun v h' => v = .slice (some ⟨h.size, 0, none⟩) n c ∧ (h'.size = h.size + 1 ∧ Ext h h') ∧ Sep h' (rowP enc sz e v h.size c (List.replicate n x0) :: L)) := by
  have := x_make (P := P) (h := h) ho ht hi hz hzs hx hy (by omega) (by omega) (by rw [← Int.natCast_mul]; omega) (by omega) H
  simpa only [Int.toNat_natCast] using this
theorem x_setRow {α : Type} [Inhabited α] {f : α → Value} {T Tb : TypeId} {u : Value} {b c : Nat} {xs : List α} {L : List HP} {i : Int} {y' : α} (ho : o.op = .store T x y) (hx : ev r x = .pointer (some ⟨b, 0 + i.toNat * 1, none⟩)) (hy : ev r y = f y') (hT : szT P T = some 1)
    (hf : ∀ a, (f a).cells = #[f a] ∧ (f a).oneCell' = true) (h0 : 0 ≤ i) (hi : i < xs.length) (H : Sep h (rowP (sc f) 1 Tb u b c xs :: L)) :
    Ex P o r h (fun v' h' => v' = undef ∧ h'.size = h.size ∧ Sep h' (rowP (sc f) 1 Tb u b c (xs.set i.toNat y') :: L)) :=
  x_storeRow (j := 0) (vs := [f y']) ho (by rw [hx]; simp) hy (by rw [(hf y').1]) hT (by simp [(hf y').2]) (sc_ok fun a => (hf a).2) (by simp) h0 hi (by simp [sc]) H

theorem y_indexS {T : TypeId} {s : ByteArray} {k : IntKind} {i : Int} {b : UInt8} (ho : o.op = .index T x y) (hT : P.underlying T = some .string) (hx : ev r x = .string s) (hy : ev r y = .int k i) (h0 : 0 ≤ i) (hb : s[i.toNat]? = some b) : Yl P o r S (.int .u8 (b.toNat : Int)) :=
  ⟨fun w _ => by simp [execOp, ho, hx, hy, Instr.index, asIntOf, run_underlying hT, h0, hb]⟩

/-- a row cut to fewer elements -/
theorem rowP_take {α : Type} {enc : α → List Value} {sz : Nat} {T : TypeId} {v v' : Value} {b c n : Nat} {xs : List α} {L : List HP} (he : EncOk enc sz) (hn : n ≤ xs.length) (H : Sep h (rowP enc sz T v b c xs :: L))
    (h1 : v = .slice (some ⟨b, 0, none⟩) xs.length c → v' = .slice (some ⟨b, 0, none⟩) n c) (h2 : v = .slice none 0 0 → v' = .slice none 0 0) : Sep h (rowP enc sz T v' b c (xs.take n) :: L) :=
  H.mono_head fun F hF => by
    rcases hF with ⟨rfl, rfl, rfl, hn'⟩ | ⟨cur, g1, g2, g3, g4, g5, g6, g7⟩
    · exact .inl ⟨h2 rfl, by simp, rfl, hn'⟩
    · have hl : (xs.take n).length = n := by rw [List.length_take]; omega
      refine .inr ⟨cur, by rw [h1 g1, hl], by rw [hl]; omega, g3, g4, ?_, g6, g7⟩
      rw [hl]
      have e1 : (xs.take n).flatMap enc = (xs.flatMap enc).take (n * sz) := by
        have h3 : xs.flatMap enc = (xs.take n).flatMap enc ++ (xs.drop n).flatMap enc := by
          rw [← List.flatMap_append, List.take_append_drop]
        rw [h3]
        have h4 : ((xs.take n).flatMap enc).length = n * sz := by rw [flatMap_len he.len, hl]
        rw [← h4, List.take_left]
      rw [e1, ← g5, List.take_take]
      congr 1
      have : n * sz ≤ xs.length * sz := Nat.mul_le_mul_right sz hn
      omega
end
end Go.X
