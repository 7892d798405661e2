/- Maps from whole numbers to whole numbers; slices of slices. -/
import Derived.Test.YtclbncbolhmolaaX8
set_option linter.unusedSimpArgs false
set_option linter.unusedVariables false
namespace Go.X
open Go

/-! ### an operation whose guard has not come up -/
section
variable {P : Program} {n : Fd} {ops : Array Oper} {X : Exit → Rg → Heap → Prop} {o : Oper} {l : List Oper} {r : Rg} {h : Heap}
theorem wanted_un {g : Nat} {want : Bool} {t : Nat} {a : Act} (hg : o.guard = some (g, want)) (hs : gslot ops g = some t) (ht : Nat.blt t n.n = true) (hr : Rel n a r) (hb : r t = undef) :
    Region.wanted o (yielded ops a.tmps) = false := by
  have ht' : t < a.tmps.size := by rw [hr.size]; simpa [Nat.blt_eq] using ht
  have hv : a.tmps[t]? = some undef := by
    have := hr.get t
    rw [Array.getD_eq_getD_getElem?, Array.getElem?_eq_getElem ht', Option.getD_some, hb] at this
    rw [Array.getElem?_eq_getElem ht', this]
  have hy : yielded ops a.tmps g = none := by
    have hs' : ((ops[g]?).bind fun x => x.dst) = some t := hs
    simp only [yielded, hs', Option.bind_some, hv, undef]
  simp only [Region.wanted, hg, hy]; rfl
theorem ol_gu {g : Nat} {want : Bool} {t : Nat} (hg : o.guard = some (g, want)) (hs : gslot ops g = some t) (ht : Nat.blt t n.n = true) (hb : r t = undef)
    (hd : dstOk n o.dst = true) (H : Ol P n ops X l (updO r o.dst undef) h) : Ol P n ops X (o :: l) r h := by
  refine ⟨fun E a w hr hwd => ?_⟩
  unfold wpList
  rw [if_neg (by rw [wanted_un hg hs ht hr hb]; simp)]
  exact H.run E _ w (hr.put hd undef) hwd
variable {k : Option Nat}
theorem hs_gu {S : Heap → Prop} {σ : List (Nat × Nat)} {i : Nat} {g : Nat} {want : Bool} {t : Nat} (hi : ops[i]? = some o) (hg : o.guard = some (g, want)) (hs : gslot ops g = some t) (ht : Nat.blt t n.n = true) (hb : r t = undef)
    (hd : dstOk n o.dst = true) (H : Hs P n ops X k S σ (updO r o.dst undef) h) : Hs P n ops X k S ((i, 0) :: σ) r h :=
  hs_take0 hi hd (fun a hr => .inr ⟨wanted_un hg hs ht hr hb, rfl⟩) H
theorem hs_gu1 {S : Heap → Prop} {σ : List (Nat × Nat)} {i : Nat} {g : Nat} {want : Bool} {t : Nat} (hi : ops[i]? = some o) (hg : o.guard = some (g, want)) (hs : gslot ops g = some t) (ht : Nat.blt t n.n = true) (hb : r t = undef)
    (hd : dstOk n o.dst = true) (H : Hs P n ops X k S σ (updO r o.dst undef) h) : Hs P n ops X k S ((i, 1) :: σ) r h :=
  hs_take1 hi hd (fun E a hr => .inr ⟨wanted_un hg hs ht hr hb, rfl⟩) H
end

/-- the entries of such a map: key, value, birth -/
def mapEs (l : List (Int × Int × Nat)) : Array MapEntry := (l.map fun e => (⟨.int .i64 e.1, .int .i64 e.2.1, e.2.2⟩ : MapEntry)).toArray
def look (l : List (Int × Int × Nat)) (k : Int) : Option (Nat × Int) :=
  match l with
  | [] => none
  | e :: l => if k = e.1 then some (0, e.2.1) else (look l k).map fun p => (p.1 + 1, p.2)
def putM (l : List (Int × Int × Nat)) (k v : Int) (c : Nat) : List (Int × Int × Nat) × Nat :=
  match look l k with
  | some (i, _) => (l.set i (k, v, ((l[i]?).map (·.2.2)).getD 0), c)
  | none => (l ++ [(k, v, c)], c + 1)
theorem look_lt : ∀ {l : List (Int × Int × Nat)} {k : Int} {i : Nat} {v : Int}, look l k = some (i, v) → ∃ e, l[i]? = some e ∧ e.1 = k ∧ e.2.1 = v
  | [], k, i, v, h => by cases h
  | e :: l, k, i, v, h => by
    simp only [look] at h
    split at h
    · rename_i hk; cases h; exact ⟨e, rfl, hk.symm, rfl⟩
    · cases hl : look l k with
      | none => rw [hl] at h; cases h
      | some p =>
        rw [hl] at h
        obtain ⟨j, u⟩ := p
        simp at h
        obtain ⟨rfl, rfl⟩ := h
        obtain ⟨e', h1, h2, h3⟩ := look_lt hl
        exact ⟨e', by simpa using h1, h2, h3⟩
theorem look_none : ∀ {l : List (Int × Int × Nat)} {k : Int}, look l k = none → ∀ e ∈ l, e.1 ≠ k
  | [], k, h, e, he => by cases he
  | e' :: l, k, h, e, he => by
    simp only [look] at h
    split at h
    · cases h
    · rename_i hk
      have hl : look l k = none := by cases hl : look l k with
        | none => rfl
        | some p => rw [hl] at h; cases h
      rcases List.mem_cons.1 he with rfl | he
      · exact fun e => hk e.symm
      · exact look_none hl e he
theorem look_append {l : List (Int × Int × Nat)} {k : Int} {e : Int × Int × Nat} : (look (l ++ [e]) k).map (·.2) = match look l k with | some p => some p.2 | none => if k = e.1 then some e.2.1 else none := by
  induction l with
  | nil => simp only [List.nil_append, look]; split <;> simp
  | cons x l ih =>
    simp only [List.cons_append, look]
    split
    · rfl
    · rw [Option.map_map]
      cases hl : look l k with
      | none =>
        rw [hl] at ih
        simp only [Option.map_none]
        refine Eq.trans ?_ ih
        cases look (l ++ [e]) k <;> rfl
      | some p =>
        rw [hl] at ih
        simp only [Option.map_some]
        cases hq : look (l ++ [e]) k with
        | none => rw [hq] at ih; cases ih
        | some q => rw [hq] at ih; simpa using ih
/-- what a map says of a key -/
def val (l : List (Int × Int × Nat)) (k : Int) : Option Int := (look l k).map (·.2)
theorem look_set : ∀ {l : List (Int × Int × Nat)} {k k' v u : Int} {i n : Nat}, look l k = some (i, u) → val (l.set i (k, v, n)) k' = if k' = k then some v else val l k'
  | [], k, k', v, u, i, n, h => by cases h
  | e :: l, k, k', v, u, i, n, h => by
    simp only [look] at h
    split at h
    · rename_i hk
      cases h
      simp only [List.set_cons_zero, val, look]
      by_cases h1 : k' = k
      · rw [if_pos h1, if_pos h1]; rfl
      · rw [if_neg h1, if_neg h1, if_neg (by rw [← hk]; exact h1)]
    · rename_i hk
      cases hl : look l k with
      | none => rw [hl] at h; cases h
      | some p =>
        rw [hl] at h
        obtain ⟨j, w⟩ := p
        simp at h
        obtain ⟨rfl, rfl⟩ := h
        have ih := look_set (k' := k') (v := v) (n := n) hl
        simp only [val] at ih
        simp only [List.set_cons_succ, val, look]
        by_cases h1 : k' = e.1
        · rw [if_pos h1, if_pos h1, if_neg (by rw [h1]; exact fun e => hk e.symm)]
        · rw [if_neg h1, if_neg h1, Option.map_map, Option.map_map]
          have e1 : ∀ o : Option (Nat × Int), Option.map ((fun x => x.2) ∘ fun p => (p.1 + 1, p.2)) o = o.map (·.2) := fun o => by cases o <;> rfl
          rw [e1, e1, ih]
theorem val_put {l : List (Int × Int × Nat)} {k k' v : Int} {c : Nat} : val (putM l k v c).1 k' = if k' = k then some v else val l k' := by
  unfold putM
  cases hl : look l k with
  | none =>
    simp only [val]
    rw [look_append]
    by_cases h : k' = k
    · subst h; rw [hl]; simp
    · rw [if_neg h]
      cases look l k' <;> simp [h]
  | some p =>
    obtain ⟨i, u⟩ := p
    exact look_set hl
theorem val_none {l : List (Int × Int × Nat)} {k : Int} (h : look l k = none) : val l k = none := by simp [val, h]

theorem findNow_look : ∀ (l : List (Int × Int × Nat)) (k : Int) (i : Nat), Instr.findNow (.int .i64) (.int .i64 k) (mapEs l).toList i = some ((look l k).map fun p => (i + p.1, .int .i64 p.2))
  | [], k, i => rfl
  | e :: l, k, i => by
    have ih := findNow_look l k (i + 1)
    simp only [mapEs, List.map_cons, Instr.findNow, Instr.sameNow, if_true, look] at ih ⊢
    by_cases h : k = e.1
    · rw [if_pos h]; subst h; simp
    · rw [if_neg h]
      simp only [h, beq_iff_eq, beq_eq_false_iff_ne.2 h]
      rw [ih]
      cases look l k <;> simp; omega

section
variable {P : Program} {o : Oper} {r : Rg} {h : Heap} {S : Heap → Prop} {x y z : Operand}
theorem x_makeMap {T : TypeId} {L : List HP} (ho : o.op = .makeMap T none) (H : Sep h L) :
    Ex P o r h (fun v h' => v = .map (some h.size) ∧ (h'.size = h.size + 1 ∧ Ext h h') ∧ Sep h' (HP.obj h.size (.map (mapEs []) 0) :: L)) :=
  Ex.of_run fun E w hw => by
    refine ⟨_, { w with heap := w.heap.push (.map #[] 0) }, h.push (.map #[] 0), ?_, ⟨by simp [hw.heap], hw.os, hw.tape, hw.output⟩, rfl, ⟨by simp, Ext.push _ _⟩, H.push _⟩
    have e : ∀ w : World, (newObj (.map #[] 0)).run P w = .ok w.heap.size { w with heap := w.heap.push (.map #[] 0) } := fun w => by simp [newObj, Sem.run]
    simp [execOp, ho, Instr.makeMap, e, hw.heap]
    rw [← hw.heap]; rfl
theorem y_lookup {T k e b c : Nat} {l : List (Int × Int × Nat)} {i : Int} {v : Value} (ho : o.op = .lookup T x y true) (hT : P.underlying T = some (.map k e)) (hk : P.underlying k = some (.int .i64)) {sz by_ : Nat} (he : infoT P e = some (some (.int .i64 0), sz, by_))
    (hx : ev r x = .map (some b)) (hy : ev r y = .int .i64 i) (hb : ∀ h, S h → h[b]? = some (.map (mapEs l) c)) (hv : v = .tuple #[.int .i64 ((val l i).getD 0), .bool (val l i).isSome]) : Yl P o r S v := by
  subst hv
  refine ⟨fun w hw => ?_⟩
  have hg : (getObj b).run P w = .ok (.map (mapEs l) c) w := by simp [getObj, Sem.run, hb _ hw]
  have hc : (Instr.checkKey (mapEs l).isEmpty 10000 k (.int .i64 i)).run P w = .ok () w := by
    unfold Instr.checkKey
    simp [run_underlying hk]
  have hf : (Instr.findKey k (.int .i64 i) (mapEs l).toList).run P w = .ok ((look l i).map fun p => (p.1, .int .i64 p.2)) w := by
    unfold Instr.findKey
    have := findNow_look l i 0
    simp only [Nat.zero_add] at this
    simp only [Sem.run_bind, run_underlying hk, Result.andThen_ok, this, Sem.run_pure]
  obtain ⟨i0, h1, h2, _, _⟩ := infoT_some he
  have hz1 : (zeroValue e).run P w = .ok (.int .i64 0) w := by simp [zeroValue, typeInfo, h1, h2]
  simp only [execOp, ho, Instr.lookup, hx, hy, Sem.run_bind, run_underlying hT, Result.andThen_ok, hg, Sem.run_pure, hc, hf]
  cases hl : look l i with
  | none => simp [hz1, val, hl]
  | some p => simp [val, hl]
theorem mapEs_get (l : List (Int × Int × Nat)) (i : Nat) : (mapEs l)[i]? = (l[i]?).map fun e => (⟨.int .i64 e.1, .int .i64 e.2.1, e.2.2⟩ : MapEntry) := by simp [mapEs]
theorem mapEs_set {l : List (Int × Int × Nat)} {i : Nat} {e : Int × Int × Nat} (he : l[i]? = some e) (k v : Int) :
    (mapEs l).modify i (fun e => { e with key := .int .i64 k, val := .int .i64 v }) = mapEs (l.set i (k, v, e.2.2)) := by
  apply Array.ext_getElem?
  intro j
  rw [Array.getElem?_modify, mapEs_get, mapEs_get, List.getElem?_set]
  have hi : i < l.length := (List.getElem?_eq_some_iff.1 he).1
  by_cases hij : i = j
  · subst hij
    have hv := (List.getElem?_eq_some_iff.1 he).2
    simp [he, hi, hv]
  · simp [hij]
theorem x_mapUpdate {T k e b c : Nat} {l : List (Int × Int × Nat)} {i v : Int} {L : List HP} (ho : o.op = .mapUpdate T x y z) (hT : P.underlying T = some (.map k e)) (hk : P.underlying k = some (.int .i64))
    (hx : ev r x = .map (some b)) (hy : ev r y = .int .i64 i) (hz : ev r z = .int .i64 v) (H : Sep h (HP.obj b (.map (mapEs l) c) :: L)) :
    Ex P o r h (fun v' h' => v' = undef ∧ h'.size = h.size ∧ Sep h' (HP.obj b (.map (mapEs (putM l i v c).1) (putM l i v c).2) :: L)) :=
  Ex.of_skip fun E w hw => by
    have hob := H.objH
    have hg : (getObj b).run P w = .ok (.map (mapEs l) c) w := by simp [getObj, Sem.run, hw.heap, hob]
    have hc : (Instr.checkKey false 10000 k (.int .i64 i)).run P w = .ok () w := by
      unfold Instr.checkKey
      simp [run_underlying hk]
    have hf : (Instr.findKey k (.int .i64 i) (mapEs l).toList).run P w = .ok ((look l i).map fun p => (p.1, .int .i64 p.2)) w := by
      unfold Instr.findKey
      have := findNow_look l i 0
      simp only [Nat.zero_add] at this
      simp only [Sem.run_bind, run_underlying hk, Result.andThen_ok, this, Sem.run_pure]
    have hset : ∀ o, (setObj b o).run P w = .ok () { w with heap := w.heap.setIfInBounds b o } := fun o => by simp [setObj, Sem.run, hw.heap, hob]
    refine ⟨{ w with heap := w.heap.setIfInBounds b (.map (mapEs (putM l i v c).1) (putM l i v c).2) }, h.setIfInBounds b (.map (mapEs (putM l i v c).1) (putM l i v c).2), ?_, ⟨by simp [hw.heap], hw.os, hw.tape, hw.output⟩, rfl, by simp, H.set0⟩
    simp only [execOp, ho, Instr.mapUpdate, hx, hy, hz, Sem.run_bind, run_underlying hT, Result.andThen_ok, hg, hc, hf]
    unfold putM
    cases hl : look l i with
    | none =>
      have e1 : (mapEs l).push { key := .int .i64 i, val := .int .i64 v, born := c } = mapEs (l ++ [(i, v, c)]) := by simp [mapEs]
      simp only [Option.map_none, e1, hset, Result.andThen_ok, Sem.run_pure]
    | some p =>
      obtain ⟨j, u⟩ := p
      obtain ⟨e', h1, h2, h3⟩ := look_lt hl
      have hst : (Instr.keyThatStays (((mapEs l)[j]?).map (·.key) |>.getD (.int .i64 i)) (.int .i64 i)).run P w = .ok (.int .i64 i) w := by
        rw [mapEs_get, h1]
        simp only [Option.map_some, Option.getD_some, h2]
        unfold Instr.keyThatStays
        have : Instr.sameBits 10000 (.int .i64 i) (.int .i64 i) = true := by unfold Instr.sameBits; simp
        rw [if_pos this, Sem.run_pure]
      simp only [Option.map_some, Sem.run_bind, hst, Result.andThen_ok, mapEs_set h1, hset, h1, Option.getD_some, Sem.run_pure]
end
end Go.X
