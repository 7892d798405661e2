/- Operations on memory: new blocks, stores, rows. -/
import Derived.Test.YtclbncbolhmolaaX2
namespace Go.X
open Go

/-! ### new variables, aggregates -/
def zeroL (P : Program) (T : TypeId) : Option (List Value) := ((P.info? T).bind (·.zero)).map (·.cells.toList)
theorem run_zero {P : Program} {T : TypeId} {cs : List Value} (h : zeroL P T = some cs) (w : World) : ∃ z, (zeroValue T).run P w = .ok z w ∧ z.cells = cs.toArray := by
  unfold zeroL at h
  cases hi : P.info? T with
  | none => rw [hi] at h; cases h
  | some i =>
    rw [hi] at h
    cases hz : i.zero with
    | none => simp [hz] at h
    | some z =>
      refine ⟨z, by simp [zeroValue, typeInfo, hi, hz], ?_⟩
      simp [hz] at h
      rw [← h]

section
variable {P : Program} {o : Oper} {r : Rg} {h : Heap} {S : Heap → Prop} {x y : Operand}

theorem Ex.of_run {K : Value → Heap → Prop} (H : ∀ E w, Wd E h w → ∃ v w' h', (execOp (ev r) o).run P w = .ok (.value v) w' ∧ Wd E h' w' ∧ K v h') : Ex P o r h K :=
  ⟨fun E a w ha hw => by
    obtain ⟨v, w', h', e, hw', hk⟩ := H E w hw
    simp only [Oper.wp, ha, e, Oper.upon]
    exact ⟨v, h', rfl, hw', hk⟩⟩
theorem Ex.of_skip {K : Value → Heap → Prop} (H : ∀ E w, Wd E h w → ∃ w' h', (execOp (ev r) o).run P w = .ok .skip w' ∧ Wd E h' w' ∧ K undef h') : Ex P o r h K :=
  ⟨fun E a w ha hw => by
    obtain ⟨w', h', e, hw', hk⟩ := H E w hw
    simp only [Oper.wp, ha, e, Oper.upon]
    exact ⟨undef, h', rfl, hw', hk⟩⟩

theorem x_alloc {T : TypeId} {cs : List Value} (ho : o.op = .alloc T) (hz : zeroL P T = some cs) {L : List HP} (H : Sep h L) :
    Ex P o r h (fun v h' => v = .pointer (some ⟨h.size, 0, none⟩) ∧ (h'.size = h.size + 1 ∧ Ext h h') ∧ Sep h' (blk h.size cs T :: L)) :=
  Ex.of_run fun E w hw => by
    obtain ⟨z, hr, hc⟩ := run_zero hz w
    refine ⟨_, { w with heap := w.heap.push (.cells cs.toArray T (0, 0)) }, h.push (.cells cs.toArray T (0, 0)), ?_, ?_, rfl, ⟨by simp, Ext.push _ _⟩, H.push _⟩
    · simp [execOp, ho, Instr.alloc, hr, newVar, newRow, hc, hw.heap]
      rw [← hw.heap]; rfl
    · exact ⟨by simp [hw.heap], hw.os, hw.tape, hw.output⟩

theorem x_box {T : TypeId} {v : Value} {cs : List Value} (ho : o.op = .box T x) (hx : ev r x = v) (hc : v.cells = cs.toArray) {L : List HP} (H : Sep h L) :
    Ex P o r h (fun v h' => v = .pointer (some ⟨h.size, 0, none⟩) ∧ (h'.size = h.size + 1 ∧ Ext h h') ∧ Sep h' (blk h.size cs T :: L)) :=
  Ex.of_run fun E w hw => by
    refine ⟨_, { w with heap := w.heap.push (.cells cs.toArray T (0, 0)) }, h.push (.cells cs.toArray T (0, 0)), ?_, ?_, rfl, ⟨by simp, Ext.push _ _⟩, H.push _⟩
    · simp [execOp, ho, Instr.box, hx, newVar, newRow, hc, hw.heap]
      rw [← hw.heap]; rfl
    · exact ⟨by simp [hw.heap], hw.os, hw.tape, hw.output⟩

/-- The parts of a struct: where each stands, and its size. -/
def placesT (P : Program) (T : TypeId) : Option (List (Nat × Nat)) :=
  match P.underlying T with
  | some (.struct fs) => fs.toList.mapM fun f => (szT P f.type).map fun s => (f.offset, s)
  | _ => none
def putL : List Value → Nat → List Value → List Value
  | cs, _, [] => cs
  | cs, off, v :: vs => putL (cs.set off v) (off + 1) vs
def fillL (pl : List (Nat × Nat)) : List Value → List (Nat × Value) → Option (List Value)
  | cs, [] => some cs
  | cs, (i, v) :: rest =>
    match pl[i]? with
    | none => none
    | some (off, size) => if v.cells.size = size ∧ off + size ≤ cs.length then fillL pl (putL cs off v.cells.toList) rest else none

theorem putL_eq (vs : List Value) : ∀ (cs : Array Value) (off : Nat),
    (vs.zipIdx.foldl (fun (cs : Array Value) (p : Value × Nat) => cs.setIfInBounds (off + p.2) p.1) cs) = (putL cs.toList off vs).toArray := by
  suffices ∀ (k : Nat) (cs : Array Value) (off : Nat), ((vs.zipIdx k).foldl (fun (cs : Array Value) (p : Value × Nat) => cs.setIfInBounds (off + p.2) p.1) cs) = (putL cs.toList (off + k) vs).toArray from this 0
  induction vs with
  | nil => intro k cs off; simp [putL]
  | cons v vs ih =>
    intro k cs off
    simp only [List.zipIdx_cons, List.foldl_cons, putL]
    rw [ih (k + 1)]
    simp [Nat.add_assoc]
theorem putL_length (vs : List Value) : ∀ (cs : List Value) (off : Nat), (putL cs off vs).length = cs.length := by
  induction vs with
  | nil => intros; rfl
  | cons v vs ih => intro cs off; simp [putL, ih]

theorem fill_eq (pl : List (Nat × Nat)) : ∀ (parts : List (Nat × Value)) (cs : List Value) (out : List Value), fillL pl cs parts = some out →
    Instr.fill (fun i => pl[i]?) cs.toArray parts = some out.toArray := by
  intro parts
  induction parts with
  | nil => intro cs out h; simp only [fillL, Option.some.injEq] at h; simp [Instr.fill, h]
  | cons p parts ih =>
    obtain ⟨i, v⟩ := p
    intro cs out h
    simp only [fillL] at h
    simp only [Instr.fill]
    cases hp : pl[i]? with
    | none => rw [hp] at h; cases h
    | some os =>
      obtain ⟨off, size⟩ := os
      rw [hp] at h
      simp only at h ⊢
      split at h
      · rename_i hc
        have hn : ¬ ((decide (v.cells.size ≠ size) || decide (off + v.cells.size > cs.toArray.size)) = true) := by simp; omega
        rw [if_neg hn]
        have := ih _ out h
        have e : (v.cells.zipIdx.foldl (fun (cs : Array Value) (x : Value × Nat) => cs.setIfInBounds (off + x.2) x.1) cs.toArray) = (putL cs off v.cells.toList).toArray := by
          have := putL_eq v.cells.toList cs.toArray off
          rw [← this, ← Array.foldl_toList, Array.toList_zipIdx]
        rw [← this]
        congr 1
      · cases h

def opsL (r : Rg) : List (Nat × Operand) → List (Nat × Value)
  | [] => []
  | (i, x) :: l => (i, ev r x) :: opsL r l
theorem opsL_eq (r : Rg) (l : List (Nat × Operand)) : opsL r l = l.map fun p => (p.1, ev r p.2) := by
  induction l with
  | nil => rfl
  | cons p l ih => obtain ⟨i, x⟩ := p; simp [opsL, ih]

theorem mapM_places {P : Program} (w : World) : ∀ (fs : List Field) (pl : List (Nat × Nat)), fs.mapM (fun f => (szT P f.type).map fun s => (f.offset, s)) = some pl →
    (List.mapM (fun (f : Field) => (do pure (f.offset, ← sizeOf f.type) : Sem (Nat × Nat))) fs).run P w = .ok pl w := by
  intro fs
  induction fs with
  | nil => intro pl h; simp at h; subst h; simp
  | cons f fs ih =>
    intro pl h
    rw [List.mapM_cons] at h
    cases hs : szT P f.type with
    | none => simp [hs] at h
    | some s =>
      simp only [hs, Option.map_some, Option.bind_eq_bind, Option.bind_some] at h
      cases hm : fs.mapM (fun f => (szT P f.type).map fun s => (f.offset, s)) with
      | none => rw [hm] at h; simp at h
      | some pl' =>
        rw [hm] at h
        simp at h
        subst h
        have h2 := ih pl' hm
        simp only [List.mapM_cons, Sem.run_bind, run_sizeOf hs, Result.andThen_ok, Sem.run_pure, h2]

theorem y_build {T : TypeId} {parts : List (Nat × Operand)} {pl : List (Nat × Nat)} {zs cs : List Value} (ho : o.op = .build T parts.toArray) (hp : placesT P T = some pl) (hz : zeroL P T = some zs) (hf : fillL pl zs (opsL r parts) = some cs) :
    Yl P o r S (.agg cs.toArray) := by
  unfold placesT at hp
  cases hu : P.underlying T with
  | none => rw [hu] at hp; cases hp
  | some d =>
    rw [hu] at hp
    cases d <;> first | (cases hp; done) | skip
    rename_i fs
    dsimp only at hp
    refine ⟨fun w _ => ?_⟩
    obtain ⟨z, hr, hc⟩ := run_zero hz w
    have hm := mapM_places w fs.toList pl hp
    have hfill := fill_eq pl _ zs cs hf
    rw [opsL_eq] at hfill
    have hm' : (Array.mapM (fun (f : Field) => (do pure (f.offset, ← sizeOf f.type) : Sem (Nat × Nat))) fs).run P w = .ok pl.toArray w := by
      rw [Array.mapM_eq_mapM_toList]
      simp only [map_eq_pure_bind, Sem.run_bind, hm, Result.andThen_ok, Sem.run_pure]
    simp only [execOp, ho, Instr.build, Sem.run_bind, hr, Result.andThen_ok, run_underlying hu, hc, hm']
    simp [hfill]

theorem szT_some {T : TypeId} {s : Nat} (h : szT P T = some s) : ∃ i, P.info? T = some i ∧ i.size = s := by
  unfold szT at h
  cases hi : P.info? T with
  | none => rw [hi] at h; cases h
  | some i => exact ⟨i, rfl, by simpa [hi] using h⟩

/-! ### stores -/
theorem heap_setRow {w : World} {g : Nat} {cur cs : Array Value} {t : TypeId} {z : Nat × Nat} (hg : w.heap[g]? = some (.cells cur t z)) : (w.setRow g cs).heap = w.heap.setIfInBounds g (.cells cs t z) := by
  apply Array.ext_getElem?
  intro i
  simp only [World.setRow, Array.getElem?_modify, Array.getElem?_setIfInBounds]
  by_cases e : g = i
  · subst e
    have hl := (Array.getElem?_eq_some_iff.1 hg).1
    have hv := (Array.getElem?_eq_some_iff.1 hg).2
    simp [hl, hv]
  · simp [e]

/-- A store into the middle of a block. -/
theorem x_storeN {T Tb : TypeId} {b p : Nat} {cur : List Value} {v : Value} {vs : List Value} (ho : o.op = .store T x y) (hx : ev r x = .pointer (some ⟨b, p, none⟩)) (hy : ev r y = v) (hv : v.cells = vs.toArray) (hT : szT P T = some vs.length)
    (h1 : vs.all (·.oneCell') = true) (hb : h[b]? = some (.cells cur.toArray Tb (0, 0))) (hp : p + vs.length ≤ cur.length) :
    Ex P o r h (fun v' h' => v' = undef ∧ h' = h.setIfInBounds b (.cells (cur.take p ++ vs ++ cur.drop (p + vs.length)).toArray Tb (0, 0))) :=
  Ex.of_skip fun E w hw => by
    have hb' : w.heap[b]? = some (.cells cur.toArray Tb (0, 0)) := by rw [hw.heap]; exact hb
    have hst := run_storeCells_at P b p Tb vs 0 cur.toArray w hb' (by simpa using hp) (by simpa using h1)
    refine ⟨w.setRow b (cur.take p ++ vs ++ cur.drop (p + vs.length)).toArray, _, ?_, ⟨?_, hw.os, hw.tape, hw.output⟩, rfl, rfl⟩
    · have hsz : v.cells.size = vs.length := by rw [hv]; simp
      simp only [Nat.add_zero] at hst
      simp only [execOp, ho, hx, hy, Instr.storeAt, Instr.sureAddr, storeVar, Sem.run_bind, Sem.run_pure, Result.andThen_ok, run_sizeOf hT, hsz]
      simp [hv, hst]
    · rw [heap_setRow hb', hw.heap]

theorem set_take_drop {α : Type} (l : List α) (p : Nat) (v : α) (hp : p < l.length) : l.take p ++ [v] ++ l.drop (p + 1) = l.set p v := by
  rw [List.set_eq_take_append_cons_drop]
  simp [hp]

theorem x_store {T Tb : TypeId} {b p : Nat} {cur : List Value} {v : Value} {L : List HP} (ho : o.op = .store T x y) (hx : ev r x = .pointer (some ⟨b, p, none⟩)) (hy : ev r y = v) (hv : v.cells = #[v]) (hT : szT P T = some 1)
    (h1 : v.oneCell' = true) (H : Sep h L) (i : Nat) (hi : Nat.blt i L.length = true) (e : nthP L i = blk b cur Tb) (hp : Nat.blt p cur.length = true) :
    Ex P o r h (fun v' h' => v' = undef ∧ h'.size = h.size ∧ Sep h' (setP L i (blk b (cur.set p v) Tb))) := by
  have hp' : p < cur.length := by simpa [Nat.blt_eq] using hp
  have hb := H.obj i e
  refine (x_storeN (vs := [v]) ho hx hy (by simpa using hv) (by simpa using hT) (by simp [h1]) hb (by simp; omega)).mono fun v' h' ⟨e1, e2⟩ => ⟨e1, by rw [e2]; simp, ?_⟩
  rw [e2]
  have hl := set_take_drop cur p v hp'
  simp only [List.length_singleton]
  rw [hl]
  exact H.set i hi e

/-- The whole of a block is written. -/
theorem x_storeW {T Tb : TypeId} {b : Nat} {cur vs : List Value} {v : Value} {L : List HP} (ho : o.op = .store T x y) (hx : ev r x = .pointer (some ⟨b, 0, none⟩)) (hy : ev r y = v) (hv : v.cells = vs.toArray) (hT : szT P T = some vs.length)
    (h1 : vs.all (·.oneCell') = true) (H : Sep h L) (i : Nat) (hi : Nat.blt i L.length = true) (e : nthP L i = blk b cur Tb) (hp : cur.length = vs.length) :
    Ex P o r h (fun v' h' => v' = undef ∧ h'.size = h.size ∧ Sep h' (setP L i (blk b vs Tb))) := by
  have hb := H.obj i e
  refine (x_storeN (vs := vs) ho hx hy hv hT h1 hb (by omega)).mono fun v' h' ⟨e1, e2⟩ => ⟨e1, by rw [e2]; simp, ?_⟩
  rw [e2]
  have hl : cur.take 0 ++ vs ++ cur.drop (0 + vs.length) = vs := by simp [← hp]
  rw [hl]
  exact H.set i hi e
end
end Go.X
