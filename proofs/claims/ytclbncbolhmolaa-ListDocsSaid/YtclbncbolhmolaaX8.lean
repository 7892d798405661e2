/- Calls of methods through interface values. -/
import Derived.Test.YtclbncbolhmolaaX7
set_option linter.unusedSimpArgs false
set_option linter.unusedVariables false
namespace Go.X
open Go

/-- the method of a dynamic type that is a pointer: its function, whether its receiver is the pointer, what the pointer points to -/
def methT (P : Program) (t : TypeId) (name : String) : Option (FuncId × Bool × TypeId) :=
  match P.info? t with
  | none => none
  | some i =>
    match i.methods.find? (·.name == name) with
    | none => none
    | some m =>
      match m.path.toList, m.func, P.underlying t with
      | [], some (f, pr), some (.pointer e) => some (f, pr, e)
      | _, _, _ => none

theorem methT_some {P : Program} {t : TypeId} {name : String} {f : FuncId} {pr : Bool} {e : TypeId} (H : methT P t name = some (f, pr, e)) :
    ∃ i m, P.info? t = some i ∧ i.methods.find? (·.name == name) = some m ∧ m.path = #[] ∧ m.func = some (f, pr) ∧ P.underlying t = some (.pointer e) := by
  unfold methT at H
  cases hi : P.info? t with
  | none => rw [hi] at H; cases H
  | some i =>
    rw [hi] at H; dsimp only at H
    cases hm : i.methods.find? (·.name == name) with
    | none => rw [hm] at H; cases H
    | some m =>
      rw [hm] at H; dsimp only at H
      refine ⟨i, m, rfl, hm, ?_⟩
      cases hp : m.path.toList with
      | cons a l => rw [hp] at H; cases H
      | nil =>
        rw [hp] at H
        cases hf : m.func with
        | none => rw [hf] at H; cases H
        | some fp =>
          obtain ⟨f', pr'⟩ := fp
          rw [hf] at H
          cases hu : P.underlying t with
          | none => rw [hu] at H; cases H
          | some d =>
            rw [hu] at H
            cases d <;> simp only [reduceCtorEq, Option.some.injEq, Prod.mk.injEq] at H
            obtain ⟨rfl, rfl, rfl⟩ := H
            exact ⟨by simpa using hp, rfl, rfl⟩

theorem run_methodP {P : Program} {t : TypeId} {name : String} {f : FuncId} {e : TypeId} {k : Nat} (H : methT P t name = some (f, true, e)) (v : Value) (w : World) : (method (k + 1) t v name).run P w = .ok (f, v) w := by
  obtain ⟨i, m, h1, h2, h3, h4, h5⟩ := methT_some H
  simp [method, typeInfo, h1, h2, h3, h4, follow, receiverAt, run_underlying h5, Place.get]
theorem run_methodV {P : Program} {t : TypeId} {name : String} {f : FuncId} {e : TypeId} {k : Nat} {h : Heap} {b p : Nat} {v : Value} (H : methT P t name = some (f, false, e)) (hl : Ld P e h b p v) (w : World) (hw : w.heap = h) :
    (method (k + 1) t (.pointer (some ⟨b, p, none⟩)) name).run P w = .ok (f, v) w := by
  obtain ⟨i, m, h1, h2, h3, h4, h5⟩ := methT_some H
  have hw' : ∀ s w, (Builtin.ssaWrapNilChk_ #[t] t #[.pointer (some ⟨b, p, none⟩), strVal "", strVal s]).run P w = .ok (.pointer (some ⟨b, p, none⟩)) w := fun s w => rfl
  simp [method, typeInfo, h1, h2, h3, h4, follow, receiverAt, run_underlying h5, Place.get, hw', asAddr, hl.run w hw]

section
variable {P : Program} {o : Oper} {r : Rg} {h : Heap} {S : Heap → Prop} {x y : Operand}
theorem run_callMethod {t : TypeId} {v v' : Value} {name : String} {f : FuncId} {args : List Value} {w : World} (hm : (method (P.types.size + Made.depth) t v name).run P w = .ok (f, v') w) (hf : isGo P f = true) :
    (callMethod (.iface t v) name args.toArray).run P w = .ok (.enter f (v' :: args).toArray) w := by
  have h1 : (program).run P w = .ok P w := by simp [program, Sem.run, pure]
  simp [callMethod, h1, hm, run_callFunc hf]
/-- A call of a pointer's method through an interface. -/
theorem x_invokeP {t : TypeId} {v : Value} {f : FuncId} {e : TypeId} {name : String} {args : List Value} {as : List Operand} {ts : Array TypeId} {R : Value → Heap → Prop} (ho : o.op = .call { callee := .invoke x name, args := as.toArray, argTypes := ts })
    (hm : methT P t name = some (f, true, e)) (hf : isGo P f = true) (hx : ev r x = .iface t v) (ha : evs r as = args) (H : FnT P f (v :: args) h R) : Ex P o r h R :=
  .of_enter (fun w _ => by
    have hA : as.map (ev r) = args := by rw [← evs_eq, ha]
    have hd : P.types.size + Made.depth = (P.types.size + 99) + 1 := rfl
    have h1 := run_callMethod (args := args) (hd ▸ run_methodP (k := P.types.size + 99) hm v w) hf
    have h2 : (Array.extract (#[ev r x] ++ (as.map (ev r)).toArray) 1 (#[ev r x] ++ (as.map (ev r)).toArray).size) = args.toArray := by rw [hA]; simp
    simp only [execOp, ho, resolve]
    simp [invoke, hA, hx, h1]) H
/-- A call of a value's method through an interface that holds a pointer. -/
theorem x_invokeV {t : TypeId} {b p : Nat} {v : Value} {f : FuncId} {e : TypeId} {name : String} {args : List Value} {as : List Operand} {ts : Array TypeId} {R : Value → Heap → Prop} (ho : o.op = .call { callee := .invoke x name, args := as.toArray, argTypes := ts })
    (hm : methT P t name = some (f, false, e)) (hf : isGo P f = true) (hx : ev r x = .iface t (.pointer (some ⟨b, p, none⟩))) (hl : Ld P e h b p v) (ha : evs r as = args) (H : FnT P f (v :: args) h R) : Ex P o r h R :=
  .of_enter (fun w hw => by
    have hA : as.map (ev r) = args := by rw [← evs_eq, ha]
    have hd : P.types.size + Made.depth = (P.types.size + 99) + 1 := rfl
    have h1 := run_callMethod (args := args) (hd ▸ run_methodV (k := P.types.size + 99) hm hl w hw) hf
    simp only [execOp, ho, resolve]
    simp [invoke, hA, hx, h1]) H
/-- v[:i] -/
def cutV (v : Value) (i : Nat) : Value := match v with
  | .slice (some a) _ c => .slice (some a) i c
  | v => v
theorem y_cutV {k : IntKind} {i : Int} {m : Nat} {t e : TypeId} {sz b p n c : Nat} {v : Value} (ho : o.op = .slice t x none (some y) none) (ht : P.underlying t = some (.slice e)) (hs : szT P e = some sz) (hx : ev r x = v) (hv : SlV v b p n c) (hy : ev r y = .int k i)
    (h0 : i = m) (h1 : m ≤ c) : Yl P o r S (cutV v m) := by
  obtain ⟨v', _, h2, h3, h4⟩ := y_sliceHiV (P := P) (S := S) ho ht hs hx hv hy (by omega) (by omega)
  have em : i.toNat = m := by omega
  rw [em] at h2
  obtain ⟨a, rfl, g2, g3⟩ := hv.out
  cases a with
  | none => obtain ⟨rfl, rfl⟩ := g2 rfl; rw [h3 rfl] at h4; exact h4
  | some a => obtain rfl := g3 a rfl; rw [h2 rfl] at h4; exact h4
theorem cutV_sl {v : Value} {b p n c i : Nat} (hv : SlV v b p n c) (hi : i ≤ n) : SlV (cutV v i) b p i c := by
  obtain ⟨a, rfl, h2, h3⟩ := hv.out
  cases a with
  | none =>
    obtain ⟨rfl, rfl⟩ := h2 rfl
    obtain rfl : i = 0 := by omega
    exact hv
  | some a => exact ⟨⟨some a, rfl, fun e => (by cases e), h3⟩⟩
theorem rowP_cut {α : Type} {enc : α → List Value} {sz : Nat} {T : TypeId} {v : Value} {b c n : Nat} {xs : List α} {L : List HP} (he : EncOk enc sz) (hn : n ≤ xs.length) (H : Sep h (rowP enc sz T v b c xs :: L)) :
    Sep h (rowP enc sz T (cutV v n) b c (xs.take n) :: L) :=
  rowP_take he hn H (fun e => by rw [e]; rfl) (fun e => by rw [e]; rfl)
theorem Sep.rowC {α : Type} {enc : α → List Value} {sz : Nat} {T : TypeId} {v : Value} {b c : Nat} {xs : List α} {L : List HP} (H : Sep h L) (i : Nat) (e : nthP L i = rowP enc sz T v b c xs) : xs.length ≤ c := by
  have H1 := H.front i
  rw [e] at H1
  obtain ⟨F, F1, F2, _, _, hA, _⟩ := H1.out
  rcases hA with ⟨_, rfl, _, _⟩ | ⟨cur, _, g2, _⟩
  · simp
  · exact g2
/-- A store of a whole element. -/
theorem x_setRowN {α : Type} [Inhabited α] {enc : α → List Value} {sz : Nat} {T Tb : TypeId} {u : Value} {b c : Nat} {xs : List α} {L : List HP} {i : Int} {y' : α} (ho : o.op = .store T x y) (hx : ev r x = .pointer (some ⟨b, 0 + i.toNat * sz, none⟩)) (hy : ev r y = .agg (enc y').toArray) (hT : szT P T = some sz)
    (he : EncOk enc sz) (h0 : 0 ≤ i) (hi : i < xs.length) (H : Sep h (rowP enc sz Tb u b c xs :: L)) :
    Ex P o r h (fun v' h' => v' = undef ∧ h'.size = h.size ∧ Sep h' (rowP enc sz Tb u b c (xs.set i.toNat y') :: L)) :=
  x_storeRow (j := 0) (vs := enc y') ho (by rw [hx]; simp) hy rfl (by rw [he.len]; exact hT) (List.all_eq_true.2 fun v hv => he.one y' v hv) he (by rw [he.len]; omega) h0 hi (by simp [he.len]) H
/-- A store into a field of an element. -/
theorem x_setRowF {α : Type} [Inhabited α] {enc : α → List Value} {sz : Nat} {T Tb : TypeId} {u : Value} {b c : Nat} {xs : List α} {L : List HP} {i : Int} {j : Nat} {v : Value} {y' : α} (ho : o.op = .store T x y) (hx : ev r x = .pointer (some ⟨b, 0 + i.toNat * sz + j, none⟩)) (hy : ev r y = v) (hT : szT P T = some 1)
    (h1 : v.cells = #[v] ∧ v.oneCell' = true) (he : EncOk enc sz) (hj : j + 1 ≤ sz) (h0 : 0 ≤ i) (hi : i < xs.length) (he' : (enc (gt xs i)).set j v = enc y') (H : Sep h (rowP enc sz Tb u b c xs :: L)) :
    Ex P o r h (fun v' h' => v' = undef ∧ h'.size = h.size ∧ Sep h' (rowP enc sz Tb u b c (xs.set i.toNat y') :: L)) :=
  x_storeRow (j := j) (vs := [v]) ho (by rw [hx]; simp) hy (by rw [h1.1]) hT (by simp [h1.2]) he (by simpa using hj) h0 hi (by
    rw [← he', List.set_eq_take_append_cons_drop, if_pos (by rw [he.len]; omega)]; simp) H
end
/-- what the registers hold, but for those that are named, is forgotten -/
theorem cd_forget {P : Program} {n : Fd} {c : Code} {X : Exit → Rg → Heap → Prop} {r : Rg} {h : Heap} (S : List (Nat × Value)) (h0 : Slots r S) (H : ∀ ρ, Cd P n c X (upds ρ S) h) : Cd P n c X r h := by
  have := H r
  rwa [upds_eq _ _ h0] at this
end Go.X
