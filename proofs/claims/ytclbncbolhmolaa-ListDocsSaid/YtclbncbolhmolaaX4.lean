/- Rows: slices whose cells are the call's own; what is read of any slice. -/
import Derived.Test.YtclbncbolhmolaaX3
namespace Go.X
open Go

/-- A slice's value: where it stands, its length and its room. -/
structure SlV (v : Value) (b p n c : Nat) : Prop where
  out : ∃ a, v = .slice a n c ∧ (a = none → n = 0 ∧ c = 0) ∧ (∀ x, a = some x → x = ⟨b, p, none⟩)
theorem SlV.nil (b p : Nat) : SlV (.slice none 0 0) b p 0 0 := ⟨none, rfl, fun _ => ⟨rfl, rfl⟩, fun _ h => by cases h⟩
theorem SlV.mk' (b p n c : Nat) : SlV (.slice (some ⟨b, p, none⟩) n c) b p n c := ⟨some ⟨b, p, none⟩, rfl, fun h => absurd h (by simp), fun x h => (Option.some.inj h).symm⟩
theorem SlV.pos {v : Value} {b p n c : Nat} (h : SlV v b p n c) (hn : 0 < n) : v = .slice (some ⟨b, p, none⟩) n c := by
  obtain ⟨a, rfl, h1, h2⟩ := h.out
  cases a with
  | none => have := h1 rfl; omega
  | some x => rw [h2 x rfl]

/-- A list's elements, as they stand in the heap. -/
def Rd {α : Type} (enc : α → List Value) (sz : Nat) (h : Heap) (b p : Nat) (xs : List α) : Prop :=
  ∀ i x, xs[i]? = some x → ∀ j v, (enc x)[j]? = some v → cellH h b (p + i * sz + j) = some v

theorem Ext.rd {α : Type} {enc : α → List Value} {sz : Nat} {h h' : Heap} (H : Ext h h') {b p : Nat} {xs : List α} (hr : Rd enc sz h b p xs) : Rd enc sz h' b p xs := fun i x hx j v hv => H.cell (hr i x hx j v hv)

structure EncOk {α : Type} (enc : α → List Value) (sz : Nat) : Prop where
  len : ∀ x, (enc x).length = sz
  one : ∀ x, ∀ v ∈ enc x, v.oneCell' = true

/-- one cell an element -/
def sc {α : Type} (f : α → Value) : α → List Value := fun x => [f x]
theorem sc_ok {α : Type} {f : α → Value} (hf : ∀ x, (f x).oneCell' = true) : EncOk (sc f) 1 := ⟨fun _ => rfl, fun x v hv => by simp [sc] at hv; rw [hv]; exact hf x⟩
abbrev eI : Int → List Value := sc (Value.int .i64)
abbrev eU : Int → List Value := sc (Value.int .u64)
abbrev eY : Int → List Value := sc (Value.int .u8)
abbrev eB : Bool → List Value := sc Value.bool
/-- pointers to whole blocks -/
abbrev eP : Nat → List Value := sc (fun b => Value.pointer (some ⟨b, 0, none⟩))
theorem eI_ok : EncOk eI 1 := sc_ok fun _ => rfl
theorem eU_ok : EncOk eU 1 := sc_ok fun _ => rfl
theorem eY_ok : EncOk eY 1 := sc_ok fun _ => rfl
theorem eB_ok : EncOk eB 1 := sc_ok fun _ => rfl
theorem eP_ok : EncOk eP 1 := sc_ok fun _ => rfl

def gt {α : Type} [Inhabited α] (xs : List α) (i : Int) : α := xs.getD i.toNat default
theorem gt_get {α : Type} [Inhabited α] {xs : List α} {i : Int} (h0 : 0 ≤ i) (h1 : i < xs.length) : xs[i.toNat]? = some (gt xs i) := by
  have : i.toNat < xs.length := by omega
  simp [gt, this]

/-- A slice of the call's own. -/
def rowP {α : Type} (enc : α → List Value) (sz : Nat) (T : TypeId) (v : Value) (b c : Nat) (xs : List α) : HP :=
  ⟨fun h F => (v = .slice none 0 0 ∧ xs = [] ∧ c = 0 ∧ ∀ x, ¬ F x) ∨
    (∃ cur : Array Value, v = .slice (some ⟨b, 0, none⟩) xs.length c ∧ xs.length ≤ c ∧ c ≤ maxLen ∧ cur.size = c * sz ∧ cur.toList.take (xs.length * sz) = xs.flatMap enc ∧
      (∀ x, F x ↔ x = b) ∧ h[b]? = some (.cells cur T (0, 0))),
   fun {h h' F} H e => by
    rcases H with H | ⟨cur, h1, h2, h3, h4, h5, h6, h7⟩
    · exact .inl H
    · exact .inr ⟨cur, h1, h2, h3, h4, h5, h6, (e b ((h6 b).2 rfl)).trans h7⟩,
   fun {h F} H x hx => by
    rcases H with ⟨_, _, _, hn⟩ | ⟨cur, _, _, _, _, _, h6, h7⟩
    · exact (hn x hx).elim
    · rw [(h6 x).1 hx]; exact (Array.getElem?_eq_some_iff.1 h7).1⟩

theorem flatMap_get {α : Type} {enc : α → List Value} {sz : Nat} (he : ∀ x, (enc x).length = sz) : ∀ (xs : List α) (i : Nat) (x : α) (j : Nat), xs[i]? = some x → j < sz → (xs.flatMap enc)[i * sz + j]? = (enc x)[j]?
  | [], i, x, j, h, _ => by simp at h
  | y :: xs, 0, x, j, h, hj => by
    simp at h
    subst h
    have : j < (enc y).length := by rw [he]; exact hj
    simp [List.getElem?_append, this]
  | y :: xs, i + 1, x, j, h, hj => by
    simp at h
    have ih := flatMap_get he xs i x j h hj
    rw [List.flatMap_cons, List.getElem?_append_right (by rw [he, Nat.add_mul]; omega), he, ← ih]
    congr 1
    rw [Nat.add_mul]; omega
theorem flatMap_len {α : Type} {enc : α → List Value} {sz : Nat} (he : ∀ x, (enc x).length = sz) : ∀ (xs : List α), (xs.flatMap enc).length = xs.length * sz
  | [] => by simp
  | y :: xs => by simp [he, flatMap_len he xs, Nat.add_mul]; omega

section
variable {α : Type} {enc : α → List Value} {sz : Nat} {T : TypeId} {v : Value} {b c : Nat} {xs : List α} {h : Heap} {L : List HP}

theorem rowP_at (he : EncOk enc sz) {F : Nat → Prop} (H : (rowP enc sz T v b c xs).at_ h F) : SlV v b 0 xs.length c ∧ Rd enc sz h b 0 xs ∧ xs.length ≤ c ∧ c ≤ maxLen := by
  rcases H with ⟨rfl, rfl, rfl, _⟩ | ⟨cur, rfl, h2, h3, h4, h5, h6, h7⟩
  · exact ⟨SlV.nil b 0, fun i x hx => by simp at hx, Nat.le_refl _, Nat.zero_le _⟩
  · refine ⟨SlV.mk' b 0 _ c, fun i x hx j v hv => ?_, h2, h3⟩
    have hj : j < sz := by
      have := (List.getElem?_eq_some_iff.1 hv).1
      rwa [he.len] at this
    have hi : i < xs.length := (List.getElem?_eq_some_iff.1 hx).1
    have hg := flatMap_get he.len xs i x j hx hj
    rw [hv, ← h5, List.getElem?_take] at hg
    have hlt : i * sz + j < xs.length * sz := by
      have : (i + 1) * sz ≤ xs.length * sz := Nat.mul_le_mul_right sz hi
      rw [Nat.add_mul] at this; omega
    rw [if_pos hlt] at hg
    simp only [cellH, h7, Nat.zero_add]
    simpa using hg
theorem Sep.row (he : EncOk enc sz) (H : Sep h L) (i : Nat) (e : nthP L i = rowP enc sz T v b c xs) : SlV v b 0 xs.length c ∧ Rd enc sz h b 0 xs ∧ xs.length ≤ c ∧ c ≤ maxLen := by
  obtain ⟨F, hF⟩ := H.nth i
  rw [e] at hF
  exact rowP_at he hF
theorem Sep.rowNil (enc : α → List Value) (sz : Nat) (T : TypeId) (b : Nat) (H : Sep h L) : Sep h (rowP enc sz T (.slice none 0 0) b 0 [] :: L) :=
  H.empI.mono_head fun _ hF => .inl ⟨rfl, rfl, rfl, hF⟩
/-- a block of just these elements -/
theorem Sep.rowBlk (he : EncOk enc sz) {cs : List Value} (hc : cs = xs.flatMap enc) (hm : xs.length ≤ maxLen) (H : Sep h (blk b cs T :: L)) : Sep h (rowP enc sz T (.slice (some ⟨b, 0, none⟩) xs.length xs.length) b xs.length xs :: L) :=
  H.mono_head fun _ hF => .inr ⟨cs.toArray, rfl, Nat.le_refl _, hm, by simp [hc, flatMap_len he.len], by subst hc; rw [← flatMap_len he.len xs, List.take_length], hF.1, hF.2⟩

theorem ld_row {P : Program} {t : TypeId} {f : α → Value} [Inhabited α] {p : Nat} {i : Int} (hT : scalarT P t = true) (hr : Rd (sc f) 1 h b p xs) (h0 : 0 ≤ i) (h1 : i < xs.length) : Ld P t h b (p + i.toNat * 1) (f (gt xs i)) :=
  ld1 hT (by have := hr i.toNat _ (gt_get h0 h1) 0 (f (gt xs i)) rfl; simpa using this)
theorem ld_rowf {P : Program} {t : TypeId} [Inhabited α] {p j : Nat} {i : Int} {u : Value} (hT : scalarT P t = true) (hr : Rd enc sz h b p xs) (h0 : 0 ≤ i) (h1 : i < xs.length) (hu : (enc (gt xs i))[j]? = some u) : Ld P t h b (p + i.toNat * sz + j) u :=
  ld1 hT (hr i.toNat _ (gt_get h0 h1) j u hu)
theorem ld_rowN {P : Program} {t : TypeId} [Inhabited α] {p : Nat} {i : Int} {cs : List Value} (hT : aggT P t = some sz) (he : EncOk enc sz) (hr : Rd enc sz h b p xs) (h0 : 0 ≤ i) (h1 : i < xs.length) (hu : enc (gt xs i) = cs) : Ld P t h b (p + i.toNat * sz) (.agg cs.toArray) :=
  ldN hT (by rw [← hu]; exact he.len _) fun j v hv => hr i.toNat _ (gt_get h0 h1) j v (by rw [hu]; exact hv)
end

section
variable {P : Program} {o : Oper} {r : Rg} {h : Heap} {S : Heap → Prop} {x y : Operand} {k : IntKind} {i : Int}

theorem y_lenV {t e : TypeId} {v : Value} {b p n c : Nat} (ho : o.op = .call { callee := .builtin .len, args := #[x], argTypes := #[t] }) (ht : P.underlying t = some (.slice e)) (hx : ev r x = v) (hs : SlV v b p n c) : Yl P o r S (.int .i64 (n : Int)) := by
  obtain ⟨a, rfl, _⟩ := hs.out
  exact y_len ho ht hx
theorem y_nilV {T T' e : TypeId} {v : Value} {b p n c n' c' : Nat} (ho : o.op = .binOp .eql T x y T') (hT : P.underlying T = some (.slice e)) (hx : ev r x = v) (hs : SlV v b p n c) (hy : ev r y = .slice none n' c') :
    ∃ z : Bool, (z = true → n = 0 ∧ v = .slice none 0 0) ∧ (0 < n → z = false) ∧ Yl P o r S (.bool z) := by
  obtain ⟨a, rfl, h1, h2⟩ := hs.out
  refine ⟨a.isNone, fun hz => ?_, fun hn => ?_, y_nilS ho hT hx hy⟩
  · cases a with
    | none => obtain ⟨rfl, rfl⟩ := h1 rfl; exact ⟨rfl, rfl⟩
    | some a => cases hz
  · cases a with
    | none => have := h1 rfl; omega
    | some a => rfl
theorem y_indexV {t e : TypeId} {sz b p n c : Nat} {v : Value} (ho : o.op = .indexAddr t x y) (ht : P.underlying t = some (.slice e)) (hs : szT P e = some sz) (hx : ev r x = v) (hv : SlV v b p n c) (hy : ev r y = .int k i)
    (h0 : 0 ≤ i) (h1 : i < n) : Yl P o r S (.pointer (some ⟨b, p + i.toNat * sz, none⟩)) :=
  y_indexAddr ho ht hs (hx.trans (hv.pos (by omega))) hy h0 h1

/-- s[:k] of a slice, within its room. -/
theorem y_sliceHiV {t e : TypeId} {sz b p n c : Nat} {v : Value} (ho : o.op = .slice t x none (some y) none) (ht : P.underlying t = some (.slice e)) (hs : szT P e = some sz) (hx : ev r x = v) (hv : SlV v b p n c) (hy : ev r y = .int k i)
    (h0 : 0 ≤ i) (h1 : i ≤ c) : ∃ v', SlV v' b p i.toNat c ∧ (v = .slice (some ⟨b, p, none⟩) n c → v' = .slice (some ⟨b, p, none⟩) i.toNat c) ∧ (v = .slice none 0 0 → v' = .slice none 0 0) ∧ Yl P o r S v' := by
  obtain ⟨a, rfl, h2, h3⟩ := hv.out
  cases a with
  | none =>
    obtain ⟨rfl, rfl⟩ := h2 rfl
    have e0 : i = 0 := by omega
    subst e0
    refine ⟨.slice none 0 0, SlV.nil b p, fun h => (by cases h), fun _ => rfl, ⟨fun w _ => ?_⟩⟩
    simp [execOp, ho, hx, hy, Instr.sliceAt, Instr.slice, Instr.sliceBounds, Instr.sliceBound, asIntOf, run_underlying ht, run_sizeOf hs]
  | some a =>
    have := h3 a rfl
    subst this
    exact ⟨_, SlV.mk' b p _ c, fun _ => rfl, fun h => (by cases h), y_sliceHi ho ht hs hx hy h0 h1⟩

/-- What a type's row says: zero value, cells, bytes. -/
def infoT (P : Program) (e : TypeId) : Option (Option Value × Nat × Nat) := (P.info? e).map fun i => (i.zero, i.size, i.bytes)
theorem infoT_some {e : TypeId} {z : Value} {sz by_ : Nat} (h : infoT P e = some (some z, sz, by_)) : ∃ i, P.info? e = some i ∧ i.zero = some z ∧ i.size = sz ∧ i.bytes = by_ := by
  unfold infoT at h
  cases hi : P.info? e with
  | none => rw [hi] at h; cases h
  | some i => rw [hi] at h; simp at h; exact ⟨i, rfl, h.1, h.2.1, h.2.2⟩

theorem madeCells_take {α : Type} {enc : α → List Value} {z : Array Value} {sz n : Nat} {x0 : α} (hz : z.toList = enc x0) (hs : z.size = sz) (l : Nat) (hl : l * sz ≤ n) : (madeCells z n).toList.take (l * sz) = (List.replicate l x0).flatMap enc := by
  have hlen : (enc x0).length = sz := by rw [← hz]; simpa using hs
  apply List.ext_getElem?
  intro i
  by_cases hi : i < l * sz
  · have hsz : 0 < sz := Nat.pos_of_ne_zero fun e => by rw [e] at hi; omega
    rw [List.getElem?_take, if_pos hi]
    have hq : i / sz < l := Nat.div_lt_of_lt_mul (by rw [Nat.mul_comm]; exact hi)
    have hmod : i % sz < sz := Nat.mod_lt _ hsz
    have hg : ∀ (l q j : Nat), q < l → j < sz → ((List.replicate l x0).flatMap enc)[q * sz + j]? = (enc x0)[j]? := by
      intro l
      induction l with
      | zero => intro q j hq; omega
      | succ l ih =>
        intro q j hq hj
        rw [List.replicate_succ, List.flatMap_cons]
        cases q with
        | zero => rw [List.getElem?_append_left (by omega)]; simp
        | succ q =>
          rw [List.getElem?_append_right (by rw [hlen, Nat.add_mul]; omega), hlen, ← ih q j (by omega) hj]
          congr 1
          rw [Nat.add_mul]; omega
    have hi' : i = i / sz * sz + i % sz := by rw [Nat.mul_comm]; exact (Nat.div_add_mod i sz).symm
    rw [hi', hg l (i / sz) (i % sz) hq hmod, ← hi', ← hz]
    have hin : i < n := by omega
    have hzz : i % z.size < z.size := by rw [hs]; exact hmod
    simp [madeCells, hin, hs]
    rw [← hs, Array.getElem?_eq_getElem hzz, getElem!_pos z (i % z.size) hzz]
  · rw [List.getElem?_take, if_neg hi, List.getElem?_eq_none]
    have : ∀ l, ((List.replicate l x0).flatMap enc).length = l * sz := by
      intro l
      induction l with
      | zero => simp
      | succ l ih => rw [List.replicate_succ, List.flatMap_cons, List.length_append, ih, hlen, Nat.add_mul]; omega
    rw [this]; omega

theorem x_make {α : Type} {enc : α → List Value} {sz by_ : Nat} {T e : TypeId} {z : Value} {x0 : α} {L : List HP} {k' : IntKind} {n c : Int} (ho : o.op = .makeSlice T x y) (ht : P.underlying T = some (.slice e)) (hi : infoT P e = some (some z, sz, by_))
    (hz : z.cells.toList = enc x0) (hzs : z.cells.size = sz) (hx : ev r x = .int k n) (hy : ev r y = .int k' c) (h0 : 0 ≤ n) (hnc : n ≤ c) (hb : (by_ : Int) * c ≤ 281474976710656) (hm : c ≤ 9223372036854775807) (H : Sep h L) :
    Ex P o r h (fun v h' => v = .slice (some ⟨h.size, 0, none⟩) n.toNat c.toNat ∧ (h'.size = h.size + 1 ∧ Ext h h') ∧ Sep h' (rowP enc sz e v h.size c.toNat (List.replicate n.toNat x0) :: L)) :=
  Ex.of_run fun E w hw => by
    obtain ⟨i, h1, h2, h3, h4⟩ := infoT_some hi
    have hr := run_make (P := P) w T e i z ht h1 h2 k k' n c h0 hnc (by rw [h4]; exact hb) hm
    refine ⟨_, w.alloc (.cells (madeCells z.cells (c.toNat * i.size)) e), h.push (.cells (madeCells z.cells (c.toNat * i.size)) e), ?_, ⟨by show w.heap.push _ = _; rw [hw.heap], hw.os, hw.tape, hw.output⟩, rfl, ⟨by simp, Ext.push _ _⟩, ?_⟩
    · rw [← hw.heap]; simp only [execOp, ho, hx, hy, Sem.run_bind, hr, Result.andThen_ok, Sem.run_pure]
    · refine (H.push _).mono_head fun F hF => .inr ⟨madeCells z.cells (c.toNat * i.size), by simp, by simp; omega, by simp only [maxLen]; omega, by rw [size_madeCells, h3], ?_, hF.1, hF.2⟩
      rw [h3]
      simp only [List.length_replicate]
      exact madeCells_take hz hzs n.toNat (Nat.mul_le_mul_right sz (by omega))

theorem cells_of_rd {α : Type} {enc : α → List Value} {sz : Nat} (he : EncOk enc sz) {h : Heap} {b p : Nat} {xs : List α} (hr : Rd enc sz h b p xs) : ∀ j u, (xs.flatMap enc)[j]? = some u → cellH h b (p + j) = some u := by
  intro j u hu
  have hj : j < xs.length * sz := by
    have := (List.getElem?_eq_some_iff.1 hu).1
    rwa [flatMap_len he.len] at this
  have hsz : 0 < sz := Nat.pos_of_ne_zero fun e => by rw [e] at hj; omega
  have hq : j / sz < xs.length := Nat.div_lt_of_lt_mul (by rw [Nat.mul_comm]; exact hj)
  have hmod : j % sz < sz := Nat.mod_lt _ hsz
  have hx : xs[j / sz]? = some xs[j / sz] := List.getElem?_eq_getElem hq
  have hg := flatMap_get he.len xs (j / sz) _ (j % sz) hx hmod
  have hjj : j / sz * sz + j % sz = j := by rw [Nat.mul_comm]; exact Nat.div_add_mod j sz
  rw [hjj, hu] at hg
  have := hr (j / sz) _ hx (j % sz) u hg.symm
  rwa [show p + j / sz * sz + j % sz = p + j by omega] at this

theorem x_append {α : Type} {enc : α → List Value} {sz by_ : Nat} {T e : TypeId} {z : Value} {L : List HP} {v v2 : Value} {b c b2 p2 m c2 : Nat} {xs ys : List α}
    (ho : o.op = .call { callee := .builtin .append, args := #[x, y], argTypes := #[T, T] }) (ht : P.underlying T = some (.slice e)) (hi : infoT P e = some (some z, sz, by_)) (hzs : z.cells.size = sz) (hsz : 0 < sz) (he : EncOk enc sz)
    (hx : ev r x = v) (hy : ev r y = v2) (hv2 : SlV v2 b2 p2 m c2) (hr2 : Rd enc sz h b2 p2 ys) (hm : ys.length = m) (hbytes : (xs.length + m) * by_ ≤ 140737488355328) (hmax : xs.length + m ≤ maxLen) (H : Sep h (rowP enc sz e v b c xs :: L)) :
    Ex P o r h (fun v' h' => h.size ≤ h'.size ∧ ∃ b' c', Sep h' (rowP enc sz e v' b' c' (xs ++ ys) :: L)) :=
  Ex.of_run fun E w hw => by
    obtain ⟨i, h1, h2, h3, h4⟩ := infoT_some hi
    subst h3; subst h4
    have hres : ∀ v' w', (Builtin.append_ #[T, T] o.type #[v, v2]).run P w = .ok v' w' → (execOp (ev r) o).run P w = .ok (.value v') w' := by
      intro v' w' hr
      simp only [execOp, ho, resolve, invoke, builtin, Sem.run_bind, Sem.run_pure, Result.andThen_ok, List.map_toArray, List.map_cons, List.map_nil, hx, hy, hr]
    obtain ⟨a2, rfl, hn2, hs2⟩ := hv2.out
    rcases Nat.eq_zero_or_pos m with hm0 | hmp
    · -- nothing is appended
      subst hm0
      obtain rfl : ys = [] := List.eq_nil_of_length_eq_zero hm
      obtain ⟨F, F1, F2, eF, dF, hA, hL⟩ := H.out
      have hsl := (rowP_at he hA).1
      have hle := (rowP_at he hA).2.2.1
      obtain ⟨a, rfl, ha1, ha2⟩ := hsl.out
      refine ⟨.slice a xs.length c, w, h, hres _ _ ?_, hw, Nat.le_refl _, b, c, by simpa using H⟩
      have hfc : (Builtin.firstCells i.size 0 (.slice a2 0 c2)).run P w = .ok #[] w := by
        cases a2 <;> simp [Builtin.firstCells, loadCells, loadCellsFrom]
      cases a <;> simp [Builtin.append_, run_underlying ht, sizeOf, typeInfo, h1, Builtin.lenOf, hfc, storeCells, hle]
    · cases a2 with
      | none => have := hn2 rfl; omega
      | some a2 =>
        have := hs2 a2 rfl
        subst this
        have hl : (ys.flatMap enc).length = m * i.size := by rw [flatMap_len he.len, hm]
        have hnews : ∀ j u, (ys.flatMap enc)[j]? = some u → w.cell? ((⟨b2, p2, none⟩ : Addr).add j) = some u := fun j u hu => by
          rw [addr_add, cellH_eq hw.heap]; exact cells_of_rd he hr2 j u hu
        have h1c : ∀ u ∈ ys.flatMap enc, u.oneCell' = true := fun u hu => by
          obtain ⟨x, _, hx'⟩ := List.mem_flatMap.1 hu; exact he.one x u hx'
        obtain ⟨F, F1, F2, eF, dF, hA, hL⟩ := H.out
        have grown : ∀ (cs : List Value) (cap : Nat), cs.length = (xs.length + m) * i.size → cs = (xs ++ ys).flatMap enc → xs.length + m ≤ cap → cap ≤ maxLen →
            Sep (h.push (.cells (cs.toArray ++ Builtin.zeroCells z.cells (cap - (xs.length + m))) e)) (rowP enc i.size e (.slice (some ⟨h.size, 0, none⟩) (xs.length + m) cap) h.size cap (xs ++ ys) :: L) := by
          intro cs cap hcl hcs hle hcm
          have hp := (Sep.drop H).push (.cells (cs.toArray ++ Builtin.zeroCells z.cells (cap - (xs.length + m))) e)
          refine hp.mono_head fun G hG => .inr ⟨_, by simp [hm], by simp [hm]; omega, hcm, ?_, ?_, hG.1, hG.2⟩
          · rw [Array.size_append, List.size_toArray, size_zeroCells, hzs, hcl, ← Nat.add_mul]
            congr 1; omega
          · have : (xs ++ ys).length * i.size = cs.length := by rw [hcl]; simp [hm]
            rw [this, Array.toList_append, ← hcs]
            exact List.take_left
        rcases hA with ⟨rfl, rfl, rfl, hnF⟩ | ⟨cur, rfl, g2, g3, g4, g5, g6, g7⟩
        · have hr := run_append_nil (P := P) w T o.type e i z ht h1 h2 ⟨b2, p2, none⟩ m c2 (ys.flatMap enc) hl hnews hmp (by simp only [maxLen] at hmax; simp at hmax; omega) (by simp at hbytes; omega)
          have hge := grownCap_ge w m 0 e
          have hcm := grownCap_le_maxLen w m 0 e (by simpa using hmax)
          have hgr := grown (ys.flatMap enc) (grownCap w m 0 e) (by simpa using hl) (by simp) (by simpa using hge) hcm
          simp only [List.length_nil, Nat.zero_add, List.nil_append] at hgr
          refine ⟨_, _, _, hres _ _ hr, ⟨?_, hw.os, hw.tape, hw.output⟩, ?_, h.size, grownCap w m 0 e, by rw [hw.heap]; simpa using hgr⟩
          · show w.heap.push _ = _
            rw [hw.heap]
          · simp
        · by_cases hroom : xs.length + m ≤ c
          · have g7' : w.heap[b]? = some (.cells cur e (0, 0)) := by rw [hw.heap]; exact g7
            have hfit : xs.length * i.size + (ys.flatMap enc).length ≤ cur.size := by rw [hl, g4, ← Nat.add_mul]; exact Nat.mul_le_mul_right _ hroom
            have hr := run_append_room (P := P) w T o.type e i ht h1 b xs.length c cur g7' ⟨b2, p2, none⟩ m c2 (ys.flatMap enc) hl hnews h1c hroom hfit
            refine ⟨_, _, _, hres _ _ hr, ⟨heap_setRow g7', hw.os, hw.tape, hw.output⟩, by rw [hw.heap]; simp, b, c, ?_⟩
            rw [hw.heap]
            refine ⟨F, F1, F2, eF, dF, .inr ⟨(cur.toList.take (xs.length * i.size) ++ ys.flatMap enc ++ cur.toList.drop (xs.length * i.size + (ys.flatMap enc).length)).toArray, by simp [hm], by simp [hm]; omega, g3, ?_, ?_, g6, ?_⟩, (Seps L).loc hL fun x hx => ?_⟩
            · simp only [List.size_toArray, List.length_append, List.length_take, List.length_drop, Array.length_toList]
              omega
            · rw [g5]
              have : (xs ++ ys).length * i.size = (xs.flatMap enc ++ ys.flatMap enc).length := by
                simp only [List.length_append, flatMap_len he.len, Nat.add_mul]
              rw [this, List.flatMap_append]
              exact List.take_left
            · have hb := (Array.getElem?_eq_some_iff.1 g7).1
              simp [hb]
            · have hne : b ≠ x := fun e' => dF x ((g6 x).2 e'.symm) hx
              simp [Array.getElem?_setIfInBounds_ne hne]
          · have holds : ∀ j u, (xs.flatMap enc)[j]? = some u → w.cell? ((⟨b, 0, none⟩ : Addr).add j) = some u := fun j u hu => by
              rw [addr_add, cellH_eq hw.heap]
              exact cells_of_rd he (rowP_at he (F := F1) (.inr ⟨cur, rfl, g2, g3, g4, g5, g6, g7⟩)).2.1 j u hu
            have hr := run_append_grow (P := P) w T o.type e i z ht h1 h2 ⟨b, 0, none⟩ xs.length c (xs.flatMap enc) (flatMap_len he.len xs) holds ⟨b2, p2, none⟩ m c2 (ys.flatMap enc) hl hnews (by omega) (by simp only [maxLen] at hmax; omega) (growslice_fits (by omega) hbytes)
            have hge := grownCap_ge w (xs.length + m) c e
            have hcm := grownCap_le_maxLen w (xs.length + m) c e hmax
            have hgr := grown (xs.flatMap enc ++ ys.flatMap enc) (grownCap w (xs.length + m) c e) (by rw [List.length_append, flatMap_len he.len, hl, Nat.add_mul]) (by simp) hge hcm
            refine ⟨_, _, _, hres _ _ hr, ⟨?_, hw.os, hw.tape, hw.output⟩, ?_, h.size, grownCap w (xs.length + m) c e, by rw [hw.heap]; simpa using hgr⟩
            · show w.heap.push _ = _
              rw [hw.heap]; simp
            · simp
end
end Go.X
