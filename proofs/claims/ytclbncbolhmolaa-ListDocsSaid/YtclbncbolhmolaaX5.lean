/- Calls; stores into rows. -/
import Derived.Test.YtclbncbolhmolaaX4
import GoSem.Instr.Method
namespace Go.X
open Go

/-- Is this a function with a Go body? -/
def isGo (P : Program) (f : FuncId) : Bool :=
  match P.funcs[f]? with
  | some fn => !(fn.name == "runtime.NumGoroutine") && !fn.body.isNone
  | none => false
theorem run_callFunc {P : Program} {f : FuncId} (hf : isGo P f = true) (args : Array Value) (w : World) : (callFunc f args).run P w = .ok (.enter f args) w := by
  unfold isGo at hf
  cases hp : P.funcs[f]? with
  | none => rw [hp] at hf; cases hf
  | some fn =>
    rw [hp] at hf
    simp only [Bool.and_eq_true, Bool.not_eq_true'] at hf
    have h1 : ¬ fn.name = "runtime.NumGoroutine" := by simpa using hf.1
    have h2 : ¬ fn.body = none := fun e => by rw [e] at hf; simp at hf
    simp [callFunc, program, Sem.run, bind, Sem.bind, hp, h1, h2, pure]

def evs (r : Rg) : List Operand → List Value
  | [] => []
  | x :: l => ev r x :: evs r l
theorem evs_eq (r : Rg) (l : List Operand) : evs r l = l.map (ev r) := by
  induction l with
  | nil => rfl
  | cons x l ih => simp [evs, ih]

section
variable {P : Program} {o : Oper} {r : Rg} {h : Heap} {S : Heap → Prop} {x y : Operand}

theorem Ex.of_enter {f : FuncId} {args : List Value} {R : Value → Heap → Prop} (he : ∀ w, w.heap = h → (execOp (ev r) o).run P w = .ok (.enter f args.toArray) w) (H : FnT P f args h R) : Ex P o r h R := by
  refine ⟨fun E a w ha hw => ?_⟩
  simp only [Oper.wp, ha, he w hw.heap, Oper.upon]
  refine (H.run E w hw).mono fun e w' ⟨v, h', e1, hw', hR⟩ => ?_
  subst e1
  exact ⟨v, h', rfl, hw', hR⟩

/-- A call of a function by its name. -/
theorem x_call {f : FuncId} {args : List Value} {as : List Operand} {ts : Array TypeId} {R : Value → Heap → Prop} (ho : o.op = .call { callee := .value (.func f), args := as.toArray, argTypes := ts }) (hf : isGo P f = true)
    (ha : evs r as = args) (H : FnT P f args h R) : Ex P o r h R :=
  .of_enter (fun w _ => by
    have : ((as.map (ev r)).toArray) = args.toArray := by rw [← evs_eq, ha]
    simp [execOp, ho, resolve, Deferred.ofValue, invoke, ev, run_callFunc hf, this]) H
/-- A call of a function value: a function literal with what it captured. -/
theorem x_callv {f : FuncId} {args : List Value} {as : List Operand} {cap : List Value} {ts : Array TypeId} {R : Value → Heap → Prop} (ho : o.op = .call { callee := .value x, args := as.toArray, argTypes := ts }) (hf : isGo P f = true)
    (hx : ev r x = .func (.func f) #[] cap.toArray) (ha : evs r as ++ cap = args) (H : FnT P f args h R) : Ex P o r h R :=
  .of_enter (fun w _ => by
    have : ((as.map (ev r)).toArray) ++ cap.toArray = args.toArray := by rw [← ha, evs_eq]; simp
    simp only [List.append_toArray] at this
    simp [execOp, ho, resolve, Deferred.ofValue, invoke, hx, run_callFunc hf, this]) H

theorem y_makeFunc {fn : Go.Fn} {as cs : List Operand} {va vc : List Value} (ho : o.op = .makeFunc fn as.toArray cs.toArray) (h1 : evs r as = va) (h2 : evs r cs = vc) : Yl P o r S (.func fn va.toArray vc.toArray) :=
  ⟨fun w _ => by
    rw [evs_eq] at h1 h2
    subst h1; subst h2
    simp [execOp, ho, Instr.makeFunc]⟩

theorem rowP_set {α : Type} {enc : α → List Value} {sz : Nat} {T : TypeId} {v : Value} {b c : Nat} {xs : List α} {L : List HP} (he : EncOk enc sz) (H : Sep h (rowP enc sz T v b c xs :: L)) {i : Nat} (hi : i < xs.length) (y : α) (j : Nat) (vs : List Value) (hj : j + vs.length ≤ sz)
    (hy : ((enc xs[i]).take j ++ vs ++ (enc xs[i]).drop (j + vs.length)) = enc y) :
    ∃ cur : Array Value, h[b]? = some (.cells cur T (0, 0)) ∧ i * sz + j + vs.length ≤ cur.size ∧
      Sep (h.setIfInBounds b (.cells (cur.toList.take (i * sz + j) ++ vs ++ cur.toList.drop (i * sz + j + vs.length)).toArray T (0, 0))) (rowP enc sz T v b c (xs.set i y) :: L) := by
  obtain ⟨F, F1, F2, eF, dF, hA, hL⟩ := H.out
  rcases hA with ⟨_, rfl, _, _⟩ | ⟨cur, rfl, g2, g3, g4, g5, g6, g7⟩
  · simp at hi
  · have hlt : (i + 1) * sz ≤ xs.length * sz := Nat.mul_le_mul_right sz hi
    rw [Nat.add_mul, Nat.one_mul] at hlt
    have hc : xs.length * sz ≤ cur.size := by rw [g4]; exact Nat.mul_le_mul_right sz g2
    refine ⟨cur, g7, by omega, F, F1, F2, eF, dF, .inr ⟨(cur.toList.take (i * sz + j) ++ vs ++ cur.toList.drop (i * sz + j + vs.length)).toArray, by simp, by simpa using g2, g3, ?_, ?_, g6, ?_⟩, (Seps L).loc hL fun x hx => ?_⟩
    · simp only [List.size_toArray, List.length_append, List.length_take, List.length_drop, Array.length_toList]; omega
    · have hlen : (enc y).length = sz := he.len y
      have hleni : (enc xs[i]).length = sz := he.len _
      apply List.ext_getElem?
      intro q
      simp only [List.length_set]
      by_cases hq : q < xs.length * sz
      · have hsz : 0 < sz := Nat.pos_of_ne_zero fun e => by rw [e] at hq; omega
        have hqd : q / sz < xs.length := Nat.div_lt_of_lt_mul (by rw [Nat.mul_comm]; exact hq)
        have hmod : q % sz < sz := Nat.mod_lt _ hsz
        have hqq : q = q / sz * sz + q % sz := by rw [Nat.mul_comm]; exact (Nat.div_add_mod q sz).symm
        have hold : cur.toList[q]? = (enc xs[q / sz])[q % sz]? := by
          have h1 : (cur.toList.take (xs.length * sz))[q]? = cur.toList[q]? := by rw [List.getElem?_take, if_pos hq]
          rw [← h1, g5]
          have := flatMap_get he.len xs (q / sz) _ (q % sz) (List.getElem?_eq_getElem hqd) hmod
          rw [← hqq] at this
          exact this
        have hnew : ((xs.set i y).flatMap enc)[q]? = (enc (if q / sz = i then y else xs[q / sz]))[q % sz]? := by
          have hg : (xs.set i y)[q / sz]? = some (if q / sz = i then y else xs[q / sz]) := by
            rw [List.getElem?_set]
            by_cases e : i = q / sz
            · simp [e, hqd]
            · simp [e, Ne.symm e, hqd]
          have := flatMap_get he.len (xs.set i y) (q / sz) _ (q % sz) hg hmod
          rw [← hqq] at this
          exact this
        rw [hnew, List.getElem?_take, if_pos hq]
        have hl1 : (cur.toList.take (i * sz + j)).length = i * sz + j := by rw [List.length_take, Array.length_toList]; omega
        by_cases e : q / sz = i
        · rw [if_pos e, ← hy]
          have hqi : q = i * sz + q % sz := by rw [← e]; exact hqq
          rw [List.append_assoc, List.append_assoc, List.getElem?_append, List.getElem?_append (l₁ := (enc xs[i]).take j), hl1, List.length_take, hleni]
          by_cases h1 : q < i * sz + j
          · rw [if_pos h1, if_pos (by omega), List.getElem?_take, if_pos h1, List.getElem?_take, if_pos (by omega), hold]
            simp only [e]
          · rw [if_neg h1, if_neg (by omega), List.getElem?_append, List.getElem?_append]
            have ejm : q - (i * sz + j) = q % sz - min j sz := by omega
            rw [ejm]
            by_cases h2 : q % sz - min j sz < vs.length
            · rw [if_pos h2, if_pos h2]
            · rw [if_neg h2, if_neg h2, List.getElem?_drop, List.getElem?_drop]
              have e3 : i * sz + j + vs.length + (q % sz - min j sz - vs.length) = q := by omega
              have e4 : j + vs.length + (q % sz - min j sz - vs.length) = q % sz := by omega
              rw [e3, e4, hold]
              simp only [e]
        · rw [if_neg e, ← hold, List.append_assoc, List.getElem?_append, hl1]
          have hne : q < i * sz ∨ i * sz + sz ≤ q := by
            rcases Nat.lt_or_ge (q / sz) i with hlt' | hge'
            · left
              have := Nat.mul_le_mul_right sz (show q / sz + 1 ≤ i from hlt')
              rw [Nat.add_mul] at this; omega
            · right
              have := Nat.mul_le_mul_right sz (show i + 1 ≤ q / sz by omega)
              rw [Nat.add_mul] at this; omega
          rcases hne with hne | hne
          · rw [if_pos (by omega), List.getElem?_take, if_pos (by omega)]
          · rw [if_neg (by omega), List.getElem?_append_right (by omega), List.getElem?_drop]
            congr 1; omega
      · rw [List.getElem?_take, if_neg hq, List.getElem?_eq_none]
        rw [flatMap_len he.len]; simpa using Nat.le_of_not_lt hq
    · have hb := (Array.getElem?_eq_some_iff.1 g7).1
      simp [hb]
    · have hne : b ≠ x := fun e' => dF x ((g6 x).2 e'.symm) hx
      simp [Array.getElem?_setIfInBounds_ne hne]

/-- A store into an element, or into a part of it. -/
theorem x_storeRow {α : Type} [Inhabited α] {enc : α → List Value} {sz : Nat} {T Tb : TypeId} {u : Value} {b c : Nat} {xs : List α} {L : List HP} {i : Int} {j : Nat} {v : Value} {vs : List Value} {y' : α} (ho : o.op = .store T x y) (hx : ev r x = .pointer (some ⟨b, i.toNat * sz + j, none⟩)) (hy : ev r y = v)
    (hv : v.cells = vs.toArray) (hT : szT P T = some vs.length) (h1 : vs.all (·.oneCell') = true) (he : EncOk enc sz) (hj : j + vs.length ≤ sz) (h0 : 0 ≤ i) (hi : i < xs.length) (he' : (enc (gt xs i)).take j ++ vs ++ (enc (gt xs i)).drop (j + vs.length) = enc y') (H : Sep h (rowP enc sz Tb u b c xs :: L)) :
    Ex P o r h (fun v' h' => v' = undef ∧ h'.size = h.size ∧ Sep h' (rowP enc sz Tb u b c (xs.set i.toNat y') :: L)) := by
  have hi' : i.toNat < xs.length := by omega
  have eg : gt xs i = xs[i.toNat] := by simp [gt, hi']
  rw [eg] at he'
  obtain ⟨cur, hb, hle, H'⟩ := rowP_set he H hi' y' j vs hj he'
  have hb' : h[b]? = some (.cells cur.toList.toArray Tb (0, 0)) := by simpa using hb
  refine (x_storeN (vs := vs) ho hx hy hv hT h1 hb' (by simpa using hle)).mono fun v' h' ⟨e1, e2⟩ => ⟨e1, by rw [e2]; simp, ?_⟩
  rw [e2]
  exact H'
end
end Go.X
