/- A program logic over the model: registers as a function, the heap alone as the state; nothing here knows the program. -/
import Derived.OrdersHeld
import Derived.Tactics
import Derived.KernelRfl
import Derived.Below
import Derived.Laws.Entries
import Derived.Laws.Cells
import Derived.WalkKit
namespace Go.X
open Go

abbrev Heap := Array Obj
abbrev Rg := Nat → Value

structure Env where
  os : Os
  tape : Nat → Question → Nat
  output : Array (Nat × ByteArray)

structure Wd (E : Env) (h : Heap) (w : World) : Prop where
  heap : w.heap = h
  os : w.os = E.os
  tape : w.tape = E.tape
  output : w.output = E.output

theorem Wd.drawn {E : Env} {h : Heap} {w : World} (hw : Wd E h w) (n : Nat) : Wd E h { w with drawn := n } := ⟨hw.heap, hw.os, hw.tape, hw.output⟩
theorem Wd.same {E : Env} {h : Heap} {w : World} (hw : Wd E h w) : { w with heap := h } = w := by rw [← hw.heap]

def upd (r : Rg) (d : Nat) (v : Value) : Rg := fun i => cond (Nat.beq i d) v (r i)
def updO (r : Rg) : Option Nat → Value → Rg
  | some d, v => upd r d v
  | none, _ => r
/-- an activation's room: how many slots; what it has deferred -/
structure Fd where
  n : Nat
  d : List Deferred
def dstOk (n : Fd) : Option Nat → Bool
  | some d => Nat.blt d n.n
  | none => true
def nthv : List Value → Nat → Value
  | [], _ => undef
  | v :: _, 0 => v
  | _ :: l, i + 1 => nthv l i

structure Rel (n : Fd) (a : Act) (r : Rg) : Prop where
  defers : a.defers = n.d
  size : a.tmps.size = n.n
  get : ∀ t, a.tmps.getD t undef = r t

def ev (r : Rg) : Operand → Value
  | .tmp t => r t
  | .const v => v
  | .global g => .pointer (some ⟨g, 0, none⟩)
  | .func f => .func (.func f) #[] #[]

theorem Rel.eval {n : Fd} {a : Act} {r : Rg} (hr : Rel n a r) : a.eval = ev r := by
  funext x
  cases x with
  | tmp t => simpa [Act.eval, ev] using hr.get t
  | _ => rfl

theorem Rel.put {n : Fd} {a : Act} {r : Rg} (hr : Rel n a r) {dst : Option Tmp} (hd : dstOk n dst = true) (v : Value) : Rel n (a.put dst v) (updO r dst v) := by
  cases dst with
  | none => exact hr
  | some d =>
    have hd' : d < n.n := by simpa [dstOk, Nat.blt_eq] using hd
    refine ⟨hr.defers, by simpa [Act.put] using hr.size, fun t => ?_⟩
    have hs := hr.size
    have hg := hr.get t
    simp only [Act.put, updO, upd]
    by_cases e : t = d
    · subst e
      simp [Array.getD_eq_getD_getElem?, hs, hd']
    · have hb : Nat.beq t d = false := by
        cases hbb : Nat.beq t d with
        | false => rfl
        | true => exact absurd (Nat.eq_of_beq_eq_true hbb) e
      rw [hb]
      simp only [cond_false]
      rw [← hg]
      simp [Array.getD_eq_getD_getElem?, Ne.symm e]

theorem upd_self (r : Rg) (d : Nat) : upd r d (r d) = r := by
  funext i
  unfold upd
  cases hb : Nat.beq i d with
  | false => rfl
  | true => rw [Nat.eq_of_beq_eq_true hb]; rfl

/-! ### code -/
def liftQ (E : Env) (n : Fd) (X : Exit → Rg → Heap → Prop) : Exit → Act → World → Prop
  | .panic _, _, _ => False
  | .outgrown, _, _ => False
  | e, a, w => ∃ r h, Rel n a r ∧ Wd E h w ∧ X e r h

structure Cd (P : Program) (n : Fd) (c : Code) (X : Exit → Rg → Heap → Prop) (r : Rg) (h : Heap) : Prop where
  run : ∀ E a w, Rel n a r → Wd E h w → c.wp P (liftQ E n X) a w

def thenX (K : Rg → Heap → Prop) (X : Exit → Rg → Heap → Prop) : Exit → Rg → Heap → Prop
  | .normal, r, h => K r h
  | e, r, h => X e r h

def blockX (id : Nat) (X : Exit → Rg → Heap → Prop) : Exit → Rg → Heap → Prop
  | .exit j, r, h => cond (Nat.beq j id) (X .normal r h) (X (.exit j) r h)
  | e, r, h => X e r h

section
variable {P : Program} {n : Fd} {X : Exit → Rg → Heap → Prop} {r : Rg} {h : Heap}

theorem cd_seq {c d : Code} (H : Cd P n c (thenX (fun r h => Cd P n d X r h) X) r h) : Cd P n (.seq c d) X r h := by
  refine ⟨fun E a w hr hw => wp_seq (wp_mono (H.run E a w hr hw) fun e a w q => ?_)⟩
  cases e <;> first | exact q.elim | skip
  · obtain ⟨r, h, hr, hw, hx⟩ := q; exact hx.run E a w hr hw
  all_goals exact q

theorem cd_skip (H : X .normal r h) : Cd P n .skip X r h := ⟨fun _ _ _ hr hw => wp_skip ⟨r, h, hr, hw, H⟩⟩
theorem cd_exit {id : Nat} (H : X (.exit id) r h) : Cd P n (.exit id) X r h := ⟨fun _ _ _ hr hw => wp_exit ⟨r, h, hr, hw, H⟩⟩
theorem cd_ret (H : X .ret r h) : Cd P n .ret X r h := ⟨fun _ _ _ hr hw => wp_ret ⟨r, h, hr, hw, H⟩⟩

theorem cd_cond {t : Operand} {x y : Code} (b : Bool) (hb : ev r t = .bool b) (H1 : b = true → Cd P n x X r h) (H2 : b = false → Cd P n y X r h) : Cd P n (.cond t x y) X r h :=
  ⟨fun E a w hr hw => wp_cond_split (t := b) (by rw [hr.eval]; exact hb) (fun e => (H1 e).run E a w hr hw) (fun e => (H2 e).run E a w hr hw)⟩
theorem cd_true {t : Operand} {x y : Code} {b : Bool} (hb : ev r t = .bool b) (e : b = true) (H : Cd P n x X r h) : Cd P n (.cond t x y) X r h :=
  cd_cond b hb (fun _ => H) (fun e' => by rw [e] at e'; cases e')
theorem cd_false {t : Operand} {x y : Code} {b : Bool} (hb : ev r t = .bool b) (e : b = false) (H : Cd P n y X r h) : Cd P n (.cond t x y) X r h :=
  cd_cond b hb (fun e' => by rw [e] at e'; cases e') (fun _ => H)

theorem cd_block {id : Nat} {c : Code} (H : Cd P n c (blockX id X) r h) : Cd P n (.block id c) X r h := by
  refine ⟨fun E a w hr hw => wp_block (wp_mono (H.run E a w hr hw) fun e a w q => ?_)⟩
  cases e with
  | exit j =>
    obtain ⟨r, h, hr, hw, hx⟩ := q
    simp only [Exit.inBlock]
    simp only [blockX] at hx
    by_cases e : j = id
    · have hb : Nat.beq j id = true := by simp [e]
      rw [hb] at hx
      rw [if_pos e]
      exact ⟨r, h, hr, hw, hx⟩
    · have hb : Nat.beq j id = false := by
        cases hbb : Nat.beq j id with
        | false => rfl
        | true => exact absurd (Nat.eq_of_beq_eq_true hbb) e
      rw [hb] at hx
      rw [if_neg e]
      exact ⟨r, h, hr, hw, hx⟩
  | panic _ => exact q.elim
  | outgrown => exact q.elim
  | _ => exact q

theorem Cd.mono {c : Code} {X' : Exit → Rg → Heap → Prop} (H : Cd P n c X r h) (hx : ∀ e r h, X e r h → X' e r h) : Cd P n c X' r h := by
  refine ⟨fun E a w hr hw => wp_mono (H.run E a w hr hw) fun e a w q => ?_⟩
  cases e <;> first | exact q | (obtain ⟨r, h, hr, hw, q⟩ := q; exact ⟨r, h, hr, hw, hx _ _ _ q⟩)

/-- Slots that are known: the rest is forgotten. -/
def Slots (r : Rg) : List (Nat × Value) → Prop
  | [] => True
  | (i, v) :: l => r i = v ∧ Slots r l
def upds (r : Rg) : List (Nat × Value) → Rg
  | [] => r
  | (i, v) :: l => upd (upds r l) i v

theorem upds_eq : ∀ (l : List (Nat × Value)) (r : Rg), Slots r l → upds r l = r
  | [], _, _ => rfl
  | (i, v) :: l, r, ⟨h1, h2⟩ => by
    simp only [upds]
    rw [upds_eq l r h2, ← h1, upd_self]

theorem cd_loop {γ : Type} {c : Code} (S : γ → List (Nat × Value)) (I : γ → Heap → Prop) (μ : γ → Nat) (x0 : γ) (h0 : Slots r (S x0)) (hI : I x0 h)
    (body : ∀ x ρ h, I x h → Cd P n c (thenX (fun r' h' => ∃ x', Slots r' (S x') ∧ I x' h' ∧ μ x' < μ x) X) (upds ρ (S x)) h) : Cd P n (.loop c) X r h := by
  refine ⟨fun E a w hr hw => ?_⟩
  -- the loop's own rule wants a measure of the state: Skolem by well-founded induction on the ghost
  have key : ∀ m (x : γ) (r : Rg) (h : Heap) (a : Act) (w : World), μ x = m → Slots r (S x) → I x h → Rel n a r → Wd E h w →
      ∀ (b : Frame) (k : List Item) (cs : List Frame), ∃ e a' w', liftQ E n X e a' w' ∧ Arrives P (lone (b.at a (.code c :: .inLoop c :: k)) cs w) b k cs e a' w' := by
    intro m
    induction m using Nat.strongRecOn with
    | _ m ih =>
      intro x r h a w hm hs hi hr hw b k cs
      have hb := (body x r h hi)
      rw [upds_eq _ _ hs] at hb
      obtain ⟨e, a₁, w₁, hq, harr⟩ := hb.run E a w hr hw b (.inLoop c :: k) cs
      cases e with
      | normal =>
        obtain ⟨r1, h1, hr1, hw1, x', hs', hi', hlt⟩ := hq
        obtain ⟨e₂, a₂, w₂, hq₂, harr₂⟩ := ih (μ x') (hm ▸ hlt) x' r1 h1 a₁ w₁ rfl hs' hi' hr1 hw1 b k cs
        exact ⟨e₂, a₂, w₂, hq₂, .of_steps (Steps.trans harr (.one step_inLoop)) harr₂⟩
      | exit id => exact ⟨_, a₁, w₁, (show liftQ E n X (.exit id) a₁ w₁ from hq), .pass (x := .inLoop c) rfl (fun _ _ => .inl (by simp)) harr⟩
      | goto l => exact ⟨_, a₁, w₁, (show liftQ E n X (.goto l) a₁ w₁ from hq), .pass (x := .inLoop c) rfl (fun _ _ => .inl (by simp)) harr⟩
      | ret => exact ⟨_, a₁, w₁, (show liftQ E n X .ret a₁ w₁ from hq), .pass (x := .inLoop c) rfl (fun _ _ => .inl (by simp)) harr⟩
      | panic ch => exact hq.elim
      | outgrown => exact hq.elim
  intro b k cs
  obtain ⟨e, a', w', hq, harr⟩ := key _ x0 r h a w rfl h0 hI hr hw b k cs
  exact ⟨e, a', w', hq, .of_steps (.one step_loop) harr⟩

/-- Forget what is not needed any more, and go on from a ghost. -/
theorem cd_cut {γ : Type} {c : Code} (S : γ → List (Nat × Value)) (I : γ → Heap → Prop) (K : Rg → Heap → Prop) (H : Cd P n c (thenX (fun r' h' => ∃ x', Slots r' (S x') ∧ I x' h') X) r h)
    (hk : ∀ x ρ h, I x h → K (upds ρ (S x)) h) : Cd P n c (thenX K X) r h :=
  H.mono fun e r h q => by
    cases e <;> first | exact q | (obtain ⟨x', hs, hi⟩ := q; have := hk x' r h hi; rw [upds_eq _ _ hs] at this; exact this)
end

/-! ### functions -/
structure FnT (P : Program) (f : FuncId) (args : List Value) (h : Heap) (R : Value → Heap → Prop) : Prop where
  run : ∀ E w, Wd E h w → Calls P f args.toArray w fun e w' => ∃ v h', e = .returned v ∧ Wd E h' w' ∧ R v h'

theorem FnT.mono {P : Program} {f : FuncId} {args : List Value} {h : Heap} {R R' : Value → Heap → Prop} (H : FnT P f args h R) (hr : ∀ v h', R v h' → R' v h') : FnT P f args h R' :=
  ⟨fun E w hw => (H.run E w hw).mono fun _ _ ⟨v, h', he, hw', q⟩ => ⟨v, h', he, hw', hr _ _ q⟩⟩

/-- What the function hands back. -/
structure Res (P : Program) (fn : Func) (r : Rg) (h : Heap) (v : Value) : Prop where
  run : ∀ (tmps : Array Value) (w : World), (∀ t, tmps.getD t undef = r t) → w.heap = h → (results fn tmps).run P w = .ok v w

def retX (P : Program) (fn : Func) (R : Value → Heap → Prop) : Exit → Rg → Heap → Prop
  | .normal, r, h | .ret, r, h => ∃ v, Res P fn r h v ∧ R v h
  | _, _, _ => False

theorem regs_init (args : List Value) (n : Nat) : Rel ⟨max n args.length, []⟩ { tmps := args.toArray ++ Array.replicate (n - args.toArray.size) undef, defers := [] } (nthv args) := by
  refine ⟨rfl, by simp; omega, fun t => ?_⟩
  have hn : ∀ (l : List Value) (t : Nat), nthv l t = (l[t]?).getD undef := by
    intro l
    induction l with
    | nil => intro t; simp [nthv]
    | cons v l ih => intro t; cases t with
      | zero => simp [nthv]
      | succ t => simp [nthv, ih]
  rw [hn]
  simp only [Array.getD_eq_getD_getElem?, Array.getElem?_append, List.size_toArray, List.getElem?_toArray]
  split
  · rfl
  · rename_i hge
    rw [Array.getElem?_replicate]
    have : args[t]? = none := List.getElem?_eq_none (by omega)
    rw [this]
    split <;> rfl

theorem fn_enter {P : Program} {f : FuncId} {args : List Value} {h : Heap} {R : Value → Heap → Prop} {fn : Func} {c : Code} {n : Nat}
    (hf : P.funcs[f]? = some fn) (hb : fn.body = some c) (hn : fn.ntmps = n) (hle : Nat.ble args.length n = true)
    (H : Cd P ⟨n, []⟩ c (retX P fn R) (nthv args) h) : FnT P f args h R := by
  refine ⟨fun E w hw => calls_of_wp hf hb ?_⟩
  have hle' : args.length ≤ n := by simpa using hle
  have hr := regs_init args n
  rw [Nat.max_eq_left hle'] at hr
  rw [hn]
  refine wp_mono (H.run E _ w hr hw) fun e a w' q => ?_
  cases e with
  | normal =>
    obtain ⟨r, h', hr', hw', v, hres, hR⟩ := q
    exact ⟨hr'.defers, v, hres.run _ _ hr'.get hw'.heap, v, h', rfl, hw', hR⟩
  | ret =>
    obtain ⟨r, h', hr', hw', v, hres, hR⟩ := q
    exact ⟨hr'.defers, v, hres.run _ _ hr'.get hw'.heap, v, h', rfl, hw', hR⟩
  | panic _ => exact q.elim
  | outgrown => exact q.elim
  | exit _ => obtain ⟨_, _, _, _, q⟩ := q; exact q.elim
  | goto _ => obtain ⟨_, _, _, _, q⟩ := q; exact q.elim

theorem ret0_ {P : Program} {fn : Func} {R : Value → Heap → Prop} {r : Rg} {h : Heap} (hr : fn.results = #[]) (H : R (.tuple #[]) h) : ∃ v, Res P fn r h v ∧ R v h :=
  ⟨_, ⟨fun tmps w _ _ => by simp [results, hr]⟩, H⟩
theorem ret0 {P : Program} {fn : Func} {R : Value → Heap → Prop} {r : Rg} {h : Heap} (hr : fn.results = #[]) (H : R (.tuple #[]) h) : retX P fn R .ret r h := ret0_ hr H
theorem ret0n {P : Program} {fn : Func} {R : Value → Heap → Prop} {r : Rg} {h : Heap} (hr : fn.results = #[]) (H : R (.tuple #[]) h) : retX P fn R .normal r h := ret0_ hr H
theorem getD_opt {tmps : Array Value} {r : Rg} (hg : ∀ t, tmps.getD t undef = r t) (t : Nat) : tmps[t]?.getD undef = r t := by simpa using hg t
theorem ret1_ {P : Program} {fn : Func} {R : Value → Heap → Prop} {r : Rg} {h : Heap} {t : Nat} {v : Value} (hr : fn.results = #[.tmp t]) (hv : r t = v) (H : R v h) : ∃ v, Res P fn r h v ∧ R v h :=
  ⟨_, ⟨fun tmps w hg _ => by simp [results, hr, getD_opt hg, hv]⟩, H⟩
theorem ret1 {P : Program} {fn : Func} {R : Value → Heap → Prop} {r : Rg} {h : Heap} {t : Nat} {v : Value} (hr : fn.results = #[.tmp t]) (hv : r t = v) (H : R v h) : retX P fn R .ret r h := ret1_ hr hv H
theorem ret1n {P : Program} {fn : Func} {R : Value → Heap → Prop} {r : Rg} {h : Heap} {t : Nat} {v : Value} (hr : fn.results = #[.tmp t]) (hv : r t = v) (H : R v h) : retX P fn R .normal r h := ret1_ hr hv H
theorem ret2_ {P : Program} {fn : Func} {R : Value → Heap → Prop} {r : Rg} {h : Heap} {t u : Nat} {v x : Value} (hr : fn.results = #[.tmp t, .tmp u]) (hv : r t = v) (hx : r u = x) (H : R (.tuple #[v, x]) h) : ∃ v, Res P fn r h v ∧ R v h :=
  ⟨_, ⟨fun tmps w hg _ => by simp [results, hr, getD_opt hg, hv, hx]⟩, H⟩
theorem ret2 {P : Program} {fn : Func} {R : Value → Heap → Prop} {r : Rg} {h : Heap} {t u : Nat} {v x : Value} (hr : fn.results = #[.tmp t, .tmp u]) (hv : r t = v) (hx : r u = x) (H : R (.tuple #[v, x]) h) : retX P fn R .ret r h := ret2_ hr hv hx H
theorem ret2n {P : Program} {fn : Func} {R : Value → Heap → Prop} {r : Rg} {h : Heap} {t u : Nat} {v x : Value} (hr : fn.results = #[.tmp t, .tmp u]) (hv : r t = v) (hx : r u = x) (H : R (.tuple #[v, x]) h) : retX P fn R .normal r h := ret2_ hr hv hx H
theorem ret3_ {P : Program} {fn : Func} {R : Value → Heap → Prop} {r : Rg} {h : Heap} {t u s : Nat} {v x y : Value} (hr : fn.results = #[.tmp t, .tmp u, .tmp s]) (hv : r t = v) (hx : r u = x) (hy : r s = y) (H : R (.tuple #[v, x, y]) h) : ∃ v, Res P fn r h v ∧ R v h :=
  ⟨_, ⟨fun tmps w hg _ => by simp [results, hr, getD_opt hg, hv, hx, hy]⟩, H⟩
theorem ret3 {P : Program} {fn : Func} {R : Value → Heap → Prop} {r : Rg} {h : Heap} {t u s : Nat} {v x y : Value} (hr : fn.results = #[.tmp t, .tmp u, .tmp s]) (hv : r t = v) (hx : r u = x) (hy : r s = y) (H : R (.tuple #[v, x, y]) h) : retX P fn R .ret r h := ret3_ hr hv hx hy H
theorem ret3n {P : Program} {fn : Func} {R : Value → Heap → Prop} {r : Rg} {h : Heap} {t u s : Nat} {v x y : Value} (hr : fn.results = #[.tmp t, .tmp u, .tmp s]) (hv : r t = v) (hx : r u = x) (hy : r s = y) (H : R (.tuple #[v, x, y]) h) : retX P fn R .normal r h := ret3_ hr hv hx hy H

def cellH (h : Heap) (b o : Nat) : Option Value :=
  match h[b]? with
  | some (.cells c _ _) => c[o]?
  | _ => none
theorem cellH_eq {h : Heap} {w : World} (e : w.heap = h) (b o : Nat) : w.cell? ⟨b, o, none⟩ = cellH h b o := by
  subst e
  unfold World.cell? cellH
  rcases w.heap[b]? with _ | o <;> first | rfl | (cases o <;> rfl)

def scalarT (P : Program) (T : TypeId) : Bool :=
  match P.underlying T with
  | some (.struct _) | some (.array _ _) | none => false
  | _ => true
def aggT (P : Program) (T : TypeId) : Option Nat :=
  match P.underlying T with
  | some (.struct _) | some (.array _ _) => (P.info? T).map (·.size)
  | _ => none

theorem addr_add (b o n : Nat) : (⟨b, o, none⟩ : Addr).add n = ⟨b, o + n, none⟩ := by unfold Addr.add; split <;> simp_all

/-- Reading a whole variable. -/
structure Ld (P : Program) (T : TypeId) (h : Heap) (b o : Nat) (v : Value) : Prop where
  out : (scalarT P T = true ∧ cellH h b o = some v) ∨ (∃ cs : List Value, aggT P T = some cs.length ∧ v = .agg cs.toArray ∧ ∀ j v, cs[j]? = some v → cellH h b (o + j) = some v)
theorem ld1 {P : Program} {T : TypeId} {h : Heap} {b o : Nat} {v : Value} (hT : scalarT P T = true) (hc : cellH h b o = some v) : Ld P T h b o v := ⟨.inl ⟨hT, hc⟩⟩
theorem ldN {P : Program} {T : TypeId} {h : Heap} {b o k : Nat} {cs : List Value} (hT : aggT P T = some k) (hk : cs.length = k) (hc : ∀ j v, cs[j]? = some v → cellH h b (o + j) = some v) : Ld P T h b o (.agg cs.toArray) :=
  ⟨.inr ⟨cs, by rw [hk]; exact hT, rfl, hc⟩⟩
theorem Ld.run {P : Program} {T : TypeId} {h : Heap} {b o : Nat} {v : Value} (H : Ld P T h b o v) : ∀ w, w.heap = h → (loadVar T ⟨b, o, none⟩).run P w = .ok v w := by
  intro w e
  rcases H.out with ⟨hT, hc⟩ | ⟨cs, hT, rfl, hc⟩
  · have hc' : w.cell? ⟨b, o, none⟩ = some v := (cellH_eq e b o).trans hc
    unfold scalarT at hT
    cases hu : P.underlying T with
    | none => rw [hu] at hT; cases hT
    | some d =>
      rw [hu] at hT
      unfold loadVar isAgg
      cases d <;> first
        | (cases hT; done)
        | (simp [run_underlying hu, hc'])
  · have hl := run_loadCells_list (P := P) (w := w) ⟨b, o, none⟩ cs (fun j v hj => by rw [addr_add, cellH_eq e]; exact hc j v hj)
    unfold aggT at hT
    cases hu : P.underlying T with
    | none => rw [hu] at hT; cases hT
    | some d =>
      rw [hu] at hT
      cases hi : P.info? T with
      | none => rw [hi] at hT; cases d <;> cases hT
      | some i =>
        rw [hi] at hT
        unfold loadVar isAgg
        cases d <;> first
          | (cases hT; done)
          | (have hs : i.size = cs.length := by simpa using hT
             simp [run_underlying hu, sizeOf, typeInfo, hi, hs, hl])

theorem ret1c_ {P : Program} {fn : Func} {R : Value → Heap → Prop} {r : Rg} {h : Heap} {t T b o : Nat} {v : Value} (hr : fn.results = #[.cell t T]) (hv : r t = .pointer (some ⟨b, o, none⟩)) (hl : Ld P T h b o v) (H : R v h) : ∃ v, Res P fn r h v ∧ R v h :=
  ⟨_, ⟨fun tmps w hg e => by simp [results, hr, getD_opt hg, hv, asAddr, hl.run w e]⟩, H⟩
theorem ret1c {P : Program} {fn : Func} {R : Value → Heap → Prop} {r : Rg} {h : Heap} {t T b o : Nat} {v : Value} (hr : fn.results = #[.cell t T]) (hv : r t = .pointer (some ⟨b, o, none⟩)) (hl : Ld P T h b o v) (H : R v h) : retX P fn R .ret r h := ret1c_ hr hv hl H
theorem ret1cn {P : Program} {fn : Func} {R : Value → Heap → Prop} {r : Rg} {h : Heap} {t T b o : Nat} {v : Value} (hr : fn.results = #[.cell t T]) (hv : r t = .pointer (some ⟨b, o, none⟩)) (hl : Ld P T h b o v) (H : R v h) : retX P fn R .normal r h := ret1c_ hr hv hl H
theorem ret2c_ {P : Program} {fn : Func} {R : Value → Heap → Prop} {r : Rg} {h : Heap} {t T b o u : Nat} {v x : Value} (hr : fn.results = #[.cell t T, .tmp u]) (hv : r t = .pointer (some ⟨b, o, none⟩)) (hl : Ld P T h b o v) (hx : r u = x) (H : R (.tuple #[v, x]) h) : ∃ v, Res P fn r h v ∧ R v h :=
  ⟨_, ⟨fun tmps w hg e => by simp [results, hr, getD_opt hg, hv, asAddr, hl.run w e, hx]⟩, H⟩
theorem ret2c {P : Program} {fn : Func} {R : Value → Heap → Prop} {r : Rg} {h : Heap} {t T b o u : Nat} {v x : Value} (hr : fn.results = #[.cell t T, .tmp u]) (hv : r t = .pointer (some ⟨b, o, none⟩)) (hl : Ld P T h b o v) (hx : r u = x) (H : R (.tuple #[v, x]) h) : retX P fn R .ret r h := ret2c_ hr hv hl hx H
theorem ret2cn {P : Program} {fn : Func} {R : Value → Heap → Prop} {r : Rg} {h : Heap} {t T b o u : Nat} {v x : Value} (hr : fn.results = #[.cell t T, .tmp u]) (hv : r t = .pointer (some ⟨b, o, none⟩)) (hl : Ld P T h b o v) (hx : r u = x) (H : R (.tuple #[v, x]) h) : retX P fn R .normal r h := ret2c_ hr hv hl hx H
theorem ret3c_ {P : Program} {fn : Func} {R : Value → Heap → Prop} {r : Rg} {h : Heap} {t T b o u s : Nat} {v x y : Value} (hr : fn.results = #[.cell t T, .tmp u, .tmp s]) (hv : r t = .pointer (some ⟨b, o, none⟩)) (hl : Ld P T h b o v) (hx : r u = x) (hy : r s = y) (H : R (.tuple #[v, x, y]) h) : ∃ v, Res P fn r h v ∧ R v h :=
  ⟨_, ⟨fun tmps w hg e => by simp [results, hr, getD_opt hg, hv, asAddr, hl.run w e, hx, hy]⟩, H⟩
theorem ret3c {P : Program} {fn : Func} {R : Value → Heap → Prop} {r : Rg} {h : Heap} {t T b o u s : Nat} {v x y : Value} (hr : fn.results = #[.cell t T, .tmp u, .tmp s]) (hv : r t = .pointer (some ⟨b, o, none⟩)) (hl : Ld P T h b o v) (hx : r u = x) (hy : r s = y) (H : R (.tuple #[v, x, y]) h) : retX P fn R .ret r h := ret3c_ hr hv hl hx hy H
theorem ret3cn {P : Program} {fn : Func} {R : Value → Heap → Prop} {r : Rg} {h : Heap} {t T b o u s : Nat} {v x y : Value} (hr : fn.results = #[.cell t T, .tmp u, .tmp s]) (hv : r t = .pointer (some ⟨b, o, none⟩)) (hl : Ld P T h b o v) (hx : r u = x) (hy : r s = y) (H : R (.tuple #[v, x, y]) h) : retX P fn R .normal r h := ret3c_ hr hv hl hx hy H

/-! ### one operation -/
/-- In every heap that meets S the operation yields v and does nothing. -/
structure Yl (P : Program) (o : Oper) (r : Rg) (S : Heap → Prop) (v : Value) : Prop where
  run : ∀ w, S w.heap → (execOp (ev r) o).run P w = .ok (.value v) w
/-- The operation ends, and K holds of its value and of the heap behind it. -/
structure Ex (P : Program) (o : Oper) (r : Rg) (h : Heap) (K : Value → Heap → Prop) : Prop where
  run : ∀ E a w, a.eval = ev r → Wd E h w → o.wp P a w (fun a' w' => ∃ v h', a' = a.put o.dst v ∧ Wd E h' w' ∧ K v h') (fun _ _ _ => False)

theorem Yl.ex {P : Program} {o : Oper} {r : Rg} {h : Heap} {v : Value} (H : Yl P o r (· = h) v) : Ex P o r h (fun v' h' => v' = v ∧ h' = h) :=
  ⟨fun E a w ha hw => by simp only [Oper.wp, ha, H.run w hw.heap, Oper.upon]; exact ⟨v, h, rfl, hw, rfl, rfl⟩⟩
theorem Ex.mono {P : Program} {o : Oper} {r : Rg} {h : Heap} {K K' : Value → Heap → Prop} (H : Ex P o r h K) (hk : ∀ v h', K v h' → K' v h') : Ex P o r h K' :=
  ⟨fun E a w ha hw => Oper.wp_mono (fun _ _ ⟨v, h', e, hw', q⟩ => ⟨v, h', e, hw', hk _ _ q⟩) (H.run E a w ha hw)⟩

theorem upon_mono {P : Program} {o : Oper} {a : Act} {K K' : Act → World → Prop} {Q Q' : Exit → Act → World → Prop} (hk : ∀ a w, K a w → K' a w) (hq : ∀ e a w, Q e a w → Q' e a w)
    (x : Result Next) (H : o.upon P a K Q x) : o.upon P a K' Q' x := by
  cases x with
  | ok n w' =>
    cases n <;> simp only [Oper.upon] at H ⊢ <;>
      first
        | exact hk _ _ H
        | exact Calls.mono H (fun e w'' he => by cases e <;> first | exact hk _ _ he | exact hq _ _ _ he | (obtain ⟨a, w, q⟩ := he; exact ⟨a, w, hq _ _ _ q⟩))
        | exact Rows.mono H (fun _ _ he => hk _ _ he)
  | halt x w' => cases x <;> simp only [Oper.upon] at H ⊢ <;> exact hq _ _ _ H

/-- An operation in the text's order. -/
structure Ol (P : Program) (n : Fd) (ops : Array Oper) (X : Exit → Rg → Heap → Prop) (l : List Oper) (r : Rg) (h : Heap) : Prop where
  run : ∀ E a w, Rel n a r → Wd E h w → wpList P ops (liftQ E n X) l a w

section
variable {P : Program} {n : Fd} {ops : Array Oper} {X : Exit → Rg → Heap → Prop} {o : Oper} {l : List Oper} {r : Rg} {h : Heap}

theorem ol_nil (H : X .normal r h) : Ol P n ops X [] r h := ⟨fun _ _ _ hr hw => wpList_nil ⟨r, h, hr, hw, H⟩⟩

theorem Ex.into {K : Value → Heap → Prop} (hx : Ex P o r h K) (hd : dstOk n o.dst = true) {Q : Exit → Act → World → Prop} {L : Act → World → Prop} {E : Env} {a : Act} {w : World} (hr : Rel n a r) (hw : Wd E h w)
    (H : ∀ v h' a' w', K v h' → Rel n a' (updO r o.dst v) → Wd E h' w' → L a' w') : o.wp P a w L Q :=
  upon_mono (fun a' w' ⟨v, h', ea, hw', hk⟩ => H v h' a' w' hk (by rw [ea]; exact hr.put hd v) hw') (fun _ _ _ q => q.elim) _ (hx.run E a w hr.eval hw)

def gslot (ops : Array Oper) (j : Nat) : Option Nat := (ops[j]?).bind (·.dst)

theorem wanted_of {g : Nat} {want b : Bool} {t : Nat} {a : Act} (hg : o.guard = some (g, want)) (hs : gslot ops g = some t) (ht : Nat.blt t n.n = true) (hr : Rel n a r) (hb : r t = .bool b) :
    Region.wanted o (yielded ops a.tmps) = (b == want) := by
  have ht' : t < a.tmps.size := by rw [hr.size]; simpa [Nat.blt_eq] using ht
  have hv : a.tmps[t]? = some (.bool b) := by
    have := hr.get t
    rw [Array.getD_eq_getD_getElem?, Array.getElem?_eq_getElem ht', Option.getD_some, hb] at this
    rw [Array.getElem?_eq_getElem ht', this]
  have hy : yielded ops a.tmps g = some b := by
    have hs' : ((ops[g]?).bind fun x => x.dst) = some t := hs
    simp only [yielded, hs', Option.bind_some, hv]
  simp only [Region.wanted, hg, hy]
  cases b <;> cases want <;> rfl

theorem ol_x {K : Value → Heap → Prop} (hg : o.guard = none) (hd : dstOk n o.dst = true) (hx : Ex P o r h K) (H : ∀ v h', K v h' → Ol P n ops X l (updO r o.dst v) h') : Ol P n ops X (o :: l) r h := by
  refine ⟨fun E a w hr hw => ?_⟩
  unfold wpList
  rw [if_pos (by simp [Region.wanted, hg])]
  exact .inl (hx.into hd hr hw fun v h' a' w' hk hr' hw' => (H v h' hk).run E a' w' hr' hw')
theorem ol_y {v : Value} (hg : o.guard = none) (hd : dstOk n o.dst = true) (hy : Yl P o r (· = h) v) (H : Ol P n ops X l (updO r o.dst v) h) : Ol P n ops X (o :: l) r h :=
  ol_x hg hd hy.ex fun _ _ ⟨e1, e2⟩ => by rw [e1, e2]; exact H
/-- A guarded operation that is carried out. -/
theorem ol_gx {K : Value → Heap → Prop} {g : Nat} {want b : Bool} {t : Nat} (hg : o.guard = some (g, want)) (hs : gslot ops g = some t) (ht : Nat.blt t n.n = true) (hb : r t = .bool b) (hw : b = want)
    (hd : dstOk n o.dst = true) (hx : Ex P o r h K) (H : ∀ v h', K v h' → Ol P n ops X l (updO r o.dst v) h') : Ol P n ops X (o :: l) r h := by
  refine ⟨fun E a w hr hwd => ?_⟩
  unfold wpList
  rw [if_pos (by rw [wanted_of hg hs ht hr hb, hw]; cases want <;> rfl)]
  exact .inl (hx.into hd hr hwd fun v h' a' w' hk hr' hw' => (H v h' hk).run E a' w' hr' hw')
theorem ol_gy {v : Value} {g : Nat} {want b : Bool} {t : Nat} (hg : o.guard = some (g, want)) (hs : gslot ops g = some t) (ht : Nat.blt t n.n = true) (hb : r t = .bool b) (hw : b = want)
    (hd : dstOk n o.dst = true) (hy : Yl P o r (· = h) v) (H : Ol P n ops X l (updO r o.dst v) h) : Ol P n ops X (o :: l) r h :=
  ol_gx hg hs ht hb hw hd hy.ex fun _ _ ⟨e1, e2⟩ => by rw [e1, e2]; exact H
/-- One that isn't. -/
theorem ol_gn {g : Nat} {want b : Bool} {t : Nat} (hg : o.guard = some (g, want)) (hs : gslot ops g = some t) (ht : Nat.blt t n.n = true) (hb : r t = .bool b) (hw : b = !want)
    (hd : dstOk n o.dst = true) (H : Ol P n ops X l (updO r o.dst undef) h) : Ol P n ops X (o :: l) r h := by
  refine ⟨fun E a w hr hwd => ?_⟩
  unfold wpList
  rw [if_neg (by rw [wanted_of hg hs ht hr hb, hw]; cases want <;> simp)]
  exact H.run E _ w (hr.put hd undef) hwd

theorem cd_region {id : Nat} {l : List Oper} (H : Ol P n l.toArray X l r h) : Cd P n (.region id l.toArray false) X r h :=
  ⟨fun E a w hr hw => wp_region_lit (H.run E a w hr hw)⟩

/-! ### a region that draws its order
S0 holds as long as operation k has not come up: what loads lean on. -/
def doneK : Option Nat → Array Bool → Bool
  | none, _ => false
  | some k, listed => listed.getD k true
def SG (k : Option Nat) (S0 : World → Prop) (listed : Array Bool) (w : World) : Prop := doneK k listed = false → S0 w

def wpAnyG (P : Program) (ops : Array Oper) (Q : Exit → Act → World → Prop) (S : Array Bool → World → Prop) : Nat → Array Bool → Act → World → Prop
  | 0, listed, a, w => Region.ready .any ops listed = [] ∧ Q .normal a w
  | fuel + 1, listed, a, w =>
    (Region.ready .any ops listed = [] → Q .normal a w) ∧
    ∀ i ∈ Region.ready .any ops listed, wpOp P ops Q i (fun a' w' => S (listed.setIfInBounds i true) w' ∧ wpAnyG P ops Q S fuel (listed.setIfInBounds i true) a' w') a w

theorem wpAny_of_G {Q : Exit → Act → World → Prop} {S : Array Bool → World → Prop} : ∀ (fuel : Nat) (listed : Array Bool) (a : Act) (w : World), wpAnyG P ops Q S fuel listed a w → wpAny P .any ops Q fuel listed a w
  | 0, _, _, _, h => h
  | fuel + 1, _, _, _, h => ⟨h.1, fun i hi => wpOp_mono (fun a' w' h' => wpAny_of_G fuel _ a' w' h'.2) (h.2 i hi)⟩

/-- what is listed has all listed that it waits for -/
def Closed (ops : Array Oper) (listed : Array Bool) : Prop :=
  ∀ j o, ops[j]? = some o → listed.getD j false = true → ∀ e ∈ o.after, Region.binds .any e = true → listed.getD e.on false = true
theorem getD_set_same {listed : Array Bool} {i : Nat} {d : Bool} (hi : i < listed.size) : (listed.setIfInBounds i true).getD i d = true := by
  rw [Array.getD_eq_getD_getElem?, Array.getElem?_setIfInBounds_self_of_lt hi]; rfl
theorem getD_set_other {listed : Array Bool} {i j : Nat} {d : Bool} (hij : j ≠ i) : (listed.setIfInBounds i true).getD j d = listed.getD j d := by
  rw [Array.getD_eq_getD_getElem?, Array.getD_eq_getD_getElem?, Array.getElem?_setIfInBounds_ne (Ne.symm hij)]
theorem getD_set_true {listed : Array Bool} {i j : Nat} (h : listed.getD j false = true) : (listed.setIfInBounds i true).getD j false = true := by
  by_cases hij : j = i
  · subst hij
    have hlt : j < listed.size := by
      rcases Nat.lt_or_ge j listed.size with hl | hl
      · exact hl
      · rw [Array.getD_eq_getD_getElem?, Array.getElem?_eq_none hl] at h; cases h
    exact getD_set_same hlt
  · rw [getD_set_other hij]; exact h
theorem Closed.list {listed : Array Bool} {i : Nat} (hc : Closed ops listed) (hr : i ∈ Region.ready .any ops listed) : Closed ops (listed.setIfInBounds i true) := by
  intro j o hj hl e he hb
  by_cases hij : j = i
  · subst hij
    obtain ⟨_, o', ho', hall⟩ := mem_ready.1 hr
    rw [hj] at ho'
    cases ho'
    exact getD_set_true (hall e he hb)
  · rw [getD_set_other hij] at hl
    exact getD_set_true (hc j o hj hl e he hb)
/-- does k wait for i? -/
def waits (ops : Array Oper) (i : Nat) : Nat → Nat → Bool
  | 0, _ => false
  | f + 1, k => match ops[k]? with
    | some o => o.after.toList.any fun e => Region.binds .any e && (e.on == i || waits ops i f e.on)
    | none => false
theorem waits_spec {i : Nat} {listed : Array Bool} (hc : Closed ops listed) : ∀ f k, waits ops i f k = true → (∀ o, ops[k]? = some o → ∀ e ∈ o.after, Region.binds .any e = true → listed.getD e.on false = true) → listed.getD i false = true
  | 0, _, h, _ => by cases h
  | f + 1, k, h, hk => by
    simp only [waits] at h
    cases ho : ops[k]? with
    | none => rw [ho] at h; cases h
    | some o =>
      rw [ho] at h
      simp only [List.any_eq_true, Bool.and_eq_true, Bool.or_eq_true, beq_iff_eq, Array.mem_toList_iff] at h
      obtain ⟨e, he, hb, hw⟩ := h
      have hl := hk o ho e he hb
      rcases hw with hw | hw
      · rw [← hw]; exact hl
      · exact waits_spec hc f e.on hw fun o' ho' e' he' hb' => hc e.on o' ho' hl e' he' hb'

theorem ready_size {listed : Array Bool} {i : Nat} (hr : i ∈ Region.ready .any ops listed) : i < listed.size := by
  obtain ⟨h0, _⟩ := mem_ready.1 hr
  rcases Nat.lt_or_ge i listed.size with hl | hl
  · exact hl
  · rw [Array.getD_eq_getD_getElem?, Array.getElem?_eq_none hl] at h0; cases h0

theorem wpAnyG_first {Q : Exit → Act → World → Prop} {k : Option Nat} {S0 T : World → Prop} {i : Nat} {oi : Oper} {v : Value} (hi : ops[i]? = some oi) (hsel : ∀ (j : Nat) (o : Oper) cs b, ops[j]? = some o → o.op ≠ .select cs b)
    (hQ : ∀ c a w, Q (.panic c) (a.put oi.dst v) w → Q (.panic c) a w) (hik : k ≠ some i)
    (hT : (∀ w, T w) ∨ (T = S0 ∧ (k = none ∨ ∃ kk f, k = some kk ∧ waits ops i f kk = true))) :
    ∀ (fuel : Nat) (listed : Array Bool) (a : Act) (w : World),
      (∀ j oj, ops[j]? = some oj → j ≠ i → listed.getD j true = false → (∀ e ∈ oj.after, Region.binds .any e = true → e.on ≠ i) → oi.apart ops oj = true) →
      Closed ops listed → i ∈ Region.ready .any ops listed → YieldsIf P ops T oi v a → SG k S0 listed w → (doneK k listed = false ∨ ∀ w, T w) →
      wpAnyG P ops Q (SG k S0) fuel (listed.setIfInBounds i true) (a.put oi.dst v) w → wpAnyG P ops Q (SG k S0) (fuel + 1) listed a w := by
  have hTS : ∀ listed w, SG k S0 listed w → (doneK k listed = false ∨ ∀ w, T w) → T w := by
    intro listed w hs hd
    rcases hT with h | ⟨h, _⟩
    · exact h w
    · rcases hd with hd | hd
      · rw [h]; exact hs hd
      · exact hd w
  have hdone : ∀ listed : Array Bool, doneK k (listed.setIfInBounds i true) = doneK k listed := by
    intro listed
    cases k with
    | none => rfl
    | some kk => exact getD_set_other fun e => hik (by rw [e])
  intro fuel
  induction fuel with
  | zero =>
    intro listed a w _ hcl hr hy hS hd H
    refine ⟨fun h => (by rw [h] at hr; cases hr), fun j hj => ?_⟩
    by_cases hji : j = i
    · subst hji; exact hy.wpOp hi (hTS _ _ hS hd) ⟨fun hdd => hS (by rw [← hdone listed]; exact hdd), H⟩
    · have := ready_mono hj hji
      rw [H.1] at this
      cases this
  | succ fuel ih =>
    intro listed a w hfree hcl hr hy hS hd H
    refine ⟨fun h => (by rw [h] at hr; cases hr), fun j hj => ?_⟩
    by_cases hji : j = i
    · subst hji; exact hy.wpOp hi (hTS _ _ hS hd) ⟨fun hdd => hS (by rw [← hdone listed]; exact hdd), H⟩
    · have h1 := H.2 j (ready_mono hj hji)
      obtain ⟨hjun, oj, hoj, hall⟩ := mem_ready.1 hj
      have hiun := (mem_ready.1 hr).1
      have hilt := ready_size hr
      have hifalse : ¬ listed.getD i false = true := by
        intro h
        simp [Array.getD_eq_getD_getElem?, Array.getElem?_eq_getElem hilt] at h hiun
        rw [hiun] at h; cases h
      have hnot : ∀ e ∈ oj.after, Region.binds .any e = true → e.on ≠ i := fun e he hb heq => by
        have h1 := hall e he hb
        rw [heq] at h1
        exact hifalse h1
      have h2 := wpOp_putIf hoj (hfree j oj hoj hji hjun hnot) (fun cs b => hsel i oi cs b hi) (fun cs b => hsel j oj cs b hoj) hQ hy h1
      have hfree' : ∀ q oq, ops[q]? = some oq → q ≠ i → (listed.setIfInBounds j true).getD q true = false →
          (∀ e ∈ oq.after, Region.binds .any e = true → e.on ≠ i) → oi.apart ops oq = true := fun q oq hq hqi hun hno => by
        refine hfree q oq hq hqi ?_ hno
        by_cases hjq : j = q
        · subst hjq; exact hjun
        · rw [getD_set_ne true hjq] at hun; exact hun
      have hcl' := hcl.list hj
      have hd' : doneK k (listed.setIfInBounds j true) = false ∨ ∀ w, T w := by
        rcases hd with hd | hd
        · rcases hT with hT | ⟨_, hT⟩
          · exact .inr hT
          · left
            rcases hT with hT | ⟨kk, f, hk, hw⟩
            · rw [hT]; rfl
            · subst hk
              have hne : kk ≠ j := by
                intro e
                subst e
                exact hifalse (waits_spec hcl f kk hw fun o ho e he hb => by rw [hoj] at ho; cases ho; exact hall e he hb)
              show (listed.setIfInBounds j true).getD kk true = false
              rw [getD_set_other hne]; exact hd
        · exact .inr hd
      refine wpOp_mono (fun a' w' h3 => ?_) h2
      have hS3 : SG k S0 (listed.setIfInBounds j true) w' := fun hdd => h3.2.1 (by rw [Array.setIfInBounds_comm _ _ (Ne.symm hji), hdone]; exact hdd)
      refine ⟨hS3, ih (listed.setIfInBounds j true) a' w' hfree' hcl' (ready_mono hr (Ne.symm hji)) h3.1 hS3 hd' ?_⟩
      rw [Array.setIfInBounds_comm _ _ hji]
      exact h3.2.2

def SW (E : Env) (S : Heap → Prop) (w : World) : Prop := ∃ h, Wd E h w ∧ S h

def kOk (ops : Array Oper) (i : Nat) (listed : Array Bool) : Option Nat → Bool
  | none => true
  | some kk => waits ops i ops.size kk && kk != i && !listed.getD kk true
/-- (i, 0): touches no memory; (i, 1): looks into memory; (i, 2): acts; (i, 3): acts, behind k -/
def okOrd (ops : Array Oper) (k : Option Nat) : List (Nat × Nat) → Array Bool → Bool
  | [], listed => (Region.ready .any ops listed).isEmpty
  | (i, 0) :: σ, listed => (Region.ready .any ops listed).contains i && Region.free .any ops listed i && (k != some i) && okOrd ops k σ (listed.setIfInBounds i true)
  | (i, 1) :: σ, listed => (Region.ready .any ops listed).contains i && Region.free .any ops listed i && kOk ops i listed k && okOrd ops k σ (listed.setIfInBounds i true)
  | (i, 2) :: σ, listed => (Region.ready .any ops listed == [i]) && okOrd ops k σ (listed.setIfInBounds i true)
  | (i, _) :: σ, listed => (Region.ready .any ops listed == [i]) && doneK k listed && okOrd ops k σ (listed.setIfInBounds i true)

structure Hs (P : Program) (n : Fd) (ops : Array Oper) (X : Exit → Rg → Heap → Prop) (k : Option Nat) (S : Heap → Prop) (σ : List (Nat × Nat)) (r : Rg) (h : Heap) : Prop where
  run : ∀ listed, okOrd ops k σ listed = true → Closed ops listed → Region.noSelect ops = true → ∀ E a w, SG k (SW E S) listed w → Rel n a r → Wd E h w → ∀ fuel, fuel = σ.length → wpAnyG P ops (liftQ E n X) (SG k (SW E S)) fuel listed a w

variable {k : Option Nat}
theorem hs_nil {S : Heap → Prop} (H : X .normal r h) : Hs P n ops X k S [] r h :=
  ⟨fun _ hk _ _ E a w _ hr hw _ hf => by
    subst hf
    exact ⟨by simpa [okOrd] using hk, r, h, hr, hw, H⟩⟩

theorem liftQ_panic {E : Env} (d : Option Tmp) (v : Value) : ∀ c a w, liftQ E n X (.panic c) (Act.put a d v) w → liftQ E n X (.panic c) a w := fun _ _ _ q => q.elim

theorem SG.list {S0 : World → Prop} {listed : Array Bool} {i : Nat} {w : World} (hs : SG k S0 listed w) (hi : k ≠ some i) : SG k S0 (listed.setIfInBounds i true) w := fun hd => hs (by
  cases k with
  | none => rfl
  | some kk => rw [show doneK (some kk) (listed.setIfInBounds i true) = doneK (some kk) listed from getD_set_other fun e => hi (by rw [e])] at hd; exact hd)

theorem hs_take0 {S : Heap → Prop} {σ : List (Nat × Nat)} {i : Nat} {v : Value} (hi : ops[i]? = some o) (hd : dstOk n o.dst = true)
    (hy : ∀ a, Rel n a r → YieldsIf P ops (fun _ => True) o v a) (H : Hs P n ops X k S σ (updO r o.dst v) h) : Hs P n ops X k S ((i, 0) :: σ) r h := by
  refine ⟨fun listed hk hcl hsel E a w hS hr hw fuel hf => ?_⟩
  simp only [okOrd, Bool.and_eq_true, bne_iff_ne, List.contains_iff_mem] at hk
  subst hf
  exact wpAnyG_first (T := fun _ => True) hi (Region.noSelect_spec hsel) (liftQ_panic _ _) hk.1.2 (.inl fun _ => trivial) _ listed a w (Region.free_spec hi hk.1.1.2) hcl hk.1.1.1 (hy a hr) hS (.inr fun _ => trivial)
    (H.run _ hk.2 (hcl.list hk.1.1.1) hsel E _ w (hS.list hk.1.2) (hr.put hd v) hw _ rfl)
theorem hs_take1 {S : Heap → Prop} {σ : List (Nat × Nat)} {i : Nat} {v : Value} (hi : ops[i]? = some o) (hd : dstOk n o.dst = true)
    (hy : ∀ E a, Rel n a r → YieldsIf P ops (SW E S) o v a) (H : Hs P n ops X k S σ (updO r o.dst v) h) : Hs P n ops X k S ((i, 1) :: σ) r h := by
  refine ⟨fun listed hk hcl hsel E a w hS hr hw fuel hf => ?_⟩
  have hk : ((Region.ready .any ops listed).contains i && Region.free .any ops listed i && kOk ops i listed k && okOrd ops k σ (listed.setIfInBounds i true)) = true := hk
  simp only [Bool.and_eq_true, List.contains_iff_mem] at hk
  subst hf
  have hne : k ≠ some i := by
    cases k with
    | none => simp
    | some kk =>
      have h2 := hk.1.2
      simp only [kOk, Bool.and_eq_true, bne_iff_ne] at h2
      intro e
      exact h2.1.2 (Option.some.inj e)
  have hdn : doneK k listed = false := by
    cases k with
    | none => rfl
    | some kk =>
      have h2 := hk.1.2
      simp only [kOk, Bool.and_eq_true, Bool.not_eq_true'] at h2
      exact h2.2
  have hwt : k = none ∨ ∃ kk f, k = some kk ∧ waits ops i f kk = true := by
    cases k with
    | none => exact .inl rfl
    | some kk =>
      have h2 := hk.1.2
      simp only [kOk, Bool.and_eq_true] at h2
      exact .inr ⟨kk, _, rfl, h2.1.1⟩
  exact wpAnyG_first (T := SW E S) hi (Region.noSelect_spec hsel) (liftQ_panic _ _) hne (.inr ⟨rfl, hwt⟩) _ listed a w (Region.free_spec hi hk.1.1.2) hcl hk.1.1.1 (hy E a hr) hS (.inl hdn)
    (H.run _ hk.2 (hcl.list hk.1.1.1) hsel E _ w (hS.list hne) (hr.put hd v) hw _ rfl)

theorem hs_p {S : Heap → Prop} {σ : List (Nat × Nat)} {i : Nat} {v : Value} (hi : ops[i]? = some o) (hg : o.guard = none) (hd : dstOk n o.dst = true) (hy : Yl P o r (fun _ => True) v)
    (H : Hs P n ops X k S σ (updO r o.dst v) h) : Hs P n ops X k S ((i, 0) :: σ) r h :=
  hs_take0 hi hd (fun a hr => .inl ⟨by simp [Region.wanted, hg], fun w' _ => by rw [hr.eval]; exact hy.run w' trivial⟩) H
theorem hs_y {S : Heap → Prop} {σ : List (Nat × Nat)} {i : Nat} {v : Value} (hi : ops[i]? = some o) (hg : o.guard = none) (hd : dstOk n o.dst = true) (hy : Yl P o r S v)
    (H : Hs P n ops X k S σ (updO r o.dst v) h) : Hs P n ops X k S ((i, 1) :: σ) r h :=
  hs_take1 hi hd (fun E a hr => .inl ⟨by simp [Region.wanted, hg], fun w' ⟨h', hw1, hs'⟩ => by rw [hr.eval]; exact hy.run w' (by rw [hw1.heap]; exact hs')⟩) H
theorem hs_gp {S : Heap → Prop} {σ : List (Nat × Nat)} {i : Nat} {v : Value} {g : Nat} {want b : Bool} {t : Nat} (hi : ops[i]? = some o) (hg : o.guard = some (g, want)) (hs : gslot ops g = some t) (ht : Nat.blt t n.n = true) (hb : r t = .bool b) (hwt : b = want)
    (hd : dstOk n o.dst = true) (hy : Yl P o r (fun _ => True) v) (H : Hs P n ops X k S σ (updO r o.dst v) h) : Hs P n ops X k S ((i, 0) :: σ) r h :=
  hs_take0 hi hd (fun a hr => .inl ⟨by rw [wanted_of hg hs ht hr hb, hwt]; cases want <;> rfl, fun w' _ => by rw [hr.eval]; exact hy.run w' trivial⟩) H
theorem hs_gy {S : Heap → Prop} {σ : List (Nat × Nat)} {i : Nat} {v : Value} {g : Nat} {want b : Bool} {t : Nat} (hi : ops[i]? = some o) (hg : o.guard = some (g, want)) (hs : gslot ops g = some t) (ht : Nat.blt t n.n = true) (hb : r t = .bool b) (hwt : b = want)
    (hd : dstOk n o.dst = true) (hy : Yl P o r S v) (H : Hs P n ops X k S σ (updO r o.dst v) h) : Hs P n ops X k S ((i, 1) :: σ) r h :=
  hs_take1 hi hd (fun E a hr => .inl ⟨by rw [wanted_of hg hs ht hr hb, hwt]; cases want <;> rfl, fun w' ⟨h', hw1, hs'⟩ => by rw [hr.eval]; exact hy.run w' (by rw [hw1.heap]; exact hs')⟩) H
theorem hs_gn {S : Heap → Prop} {σ : List (Nat × Nat)} {i : Nat} {g : Nat} {want b : Bool} {t : Nat} (hi : ops[i]? = some o) (hg : o.guard = some (g, want)) (hs : gslot ops g = some t) (ht : Nat.blt t n.n = true) (hb : r t = .bool b) (hwt : b = !want)
    (hd : dstOk n o.dst = true) (H : Hs P n ops X k S σ (updO r o.dst undef) h) : Hs P n ops X k S ((i, 0) :: σ) r h :=
  hs_take0 hi hd (fun a hr => .inr ⟨by rw [wanted_of hg hs ht hr hb, hwt]; cases want <;> rfl, rfl⟩) H

theorem hs_act {S : Heap → Prop} {σ : List (Nat × Nat)} {i : Nat} {K : Value → Heap → Prop} (hi : ops[i]? = some o) (hd : dstOk n o.dst = true) (hwant : ∀ a, Rel n a r → Region.wanted o (yielded ops a.tmps) = true) (hx : Ex P o r h K)
    (H : ∀ v h', K v h' → S h' ∧ Hs P n ops X k S σ (updO r o.dst v) h') : Hs P n ops X k S ((i, 2) :: σ) r h := by
  refine ⟨fun listed hk hcl hsel E a w hS hr hw fuel hf => ?_⟩
  have hk : (Region.ready .any ops listed == [i] && okOrd ops k σ (listed.setIfInBounds i true)) = true := hk
  simp only [Bool.and_eq_true, beq_iff_eq] at hk
  subst hf
  refine ⟨fun h0 => absurd (hk.1 ▸ h0) (by simp), fun j hj => ?_⟩
  have hj' := hj
  rw [hk.1] at hj
  obtain rfl : j = i := by simpa using hj
  unfold wpOp
  simp only [hi]
  rw [if_pos (hwant a hr)]
  exact .inl (hx.into hd hr hw fun v h' a' w' hkk hr' hw' => ⟨fun _ => ⟨h', hw', (H v h' hkk).1⟩, (H v h' hkk).2.run _ hk.2 (hcl.list hj') hsel E a' w' (fun _ => ⟨h', hw', (H v h' hkk).1⟩) hr' hw' _ rfl⟩)
/-- the operation behind which S0 is not asked any more, or one behind it -/
theorem hs_actK {S : Heap → Prop} {σ : List (Nat × Nat)} {i : Nat} {K : Value → Heap → Prop} (hi : ops[i]? = some o) (hd : dstOk n o.dst = true) (hwant : ∀ a, Rel n a r → Region.wanted o (yielded ops a.tmps) = true) (hx : Ex P o r h K) (hki : k = some i)
    (H : ∀ v h', K v h' → Hs P n ops X k S σ (updO r o.dst v) h') : Hs P n ops X k S ((i, 2) :: σ) r h := by
  refine ⟨fun listed hk hcl hsel E a w hS hr hw fuel hf => ?_⟩
  have hk : (Region.ready .any ops listed == [i] && okOrd ops k σ (listed.setIfInBounds i true)) = true := hk
  simp only [Bool.and_eq_true, beq_iff_eq] at hk
  subst hf
  refine ⟨fun h0 => absurd (hk.1 ▸ h0) (by simp), fun j hj => ?_⟩
  have hj' := hj
  rw [hk.1] at hj
  obtain rfl : j = i := by simpa using hj
  have hdn : ∀ w, SG k (SW E S) (listed.setIfInBounds j true) w := by
    intro w hdd
    rw [hki, show doneK (some j) (listed.setIfInBounds j true) = true from getD_set_same (ready_size hj')] at hdd
    cases hdd
  unfold wpOp
  simp only [hi]
  rw [if_pos (hwant a hr)]
  exact .inl (hx.into hd hr hw fun v h' a' w' hkk hr' hw' => ⟨hdn w', (H v h' hkk).run _ hk.2 (hcl.list hj') hsel E a' w' (hdn w') hr' hw' _ rfl⟩)
theorem hs_x {S : Heap → Prop} {σ : List (Nat × Nat)} {i : Nat} {K : Value → Heap → Prop} (hi : ops[i]? = some o) (hg : o.guard = none) (hd : dstOk n o.dst = true) (hx : Ex P o r h K)
    (H : ∀ v h', K v h' → S h' ∧ Hs P n ops X k S σ (updO r o.dst v) h') : Hs P n ops X k S ((i, 2) :: σ) r h :=
  hs_act hi hd (fun a _ => by simp [Region.wanted, hg]) hx H
theorem hs_gx {S : Heap → Prop} {σ : List (Nat × Nat)} {i : Nat} {K : Value → Heap → Prop} {g : Nat} {want b : Bool} {t : Nat} (hi : ops[i]? = some o) (hg : o.guard = some (g, want)) (hs : gslot ops g = some t) (ht : Nat.blt t n.n = true) (hb : r t = .bool b) (hwt : b = want)
    (hd : dstOk n o.dst = true) (hx : Ex P o r h K) (H : ∀ v h', K v h' → S h' ∧ Hs P n ops X k S σ (updO r o.dst v) h') : Hs P n ops X k S ((i, 2) :: σ) r h :=
  hs_act hi hd (fun a hr => by rw [wanted_of hg hs ht hr hb, hwt]; cases want <;> rfl) hx H
theorem hs_xk {S : Heap → Prop} {σ : List (Nat × Nat)} {i : Nat} {K : Value → Heap → Prop} (hi : ops[i]? = some o) (hg : o.guard = none) (hd : dstOk n o.dst = true) (hx : Ex P o r h K) (hki : k = some i)
    (H : ∀ v h', K v h' → Hs P n ops X k S σ (updO r o.dst v) h') : Hs P n ops X k S ((i, 2) :: σ) r h :=
  hs_actK hi hd (fun a _ => by simp [Region.wanted, hg]) hx hki H

theorem hs_actA {S : Heap → Prop} {σ : List (Nat × Nat)} {i : Nat} {K : Value → Heap → Prop} (hi : ops[i]? = some o) (hd : dstOk n o.dst = true) (hwant : ∀ a, Rel n a r → Region.wanted o (yielded ops a.tmps) = true) (hx : Ex P o r h K)
    (H : ∀ v h', K v h' → Hs P n ops X k S σ (updO r o.dst v) h') : Hs P n ops X k S ((i, 3) :: σ) r h := by
  refine ⟨fun listed hk hcl hsel E a w hS hr hw fuel hf => ?_⟩
  have hk : (Region.ready .any ops listed == [i] && doneK k listed && okOrd ops k σ (listed.setIfInBounds i true)) = true := hk
  simp only [Bool.and_eq_true, beq_iff_eq] at hk
  subst hf
  refine ⟨fun h0 => absurd (hk.1.1 ▸ h0) (by simp), fun j hj => ?_⟩
  have hj' := hj
  rw [hk.1.1] at hj
  obtain rfl : j = i := by simpa using hj
  have hdn : ∀ w, SG k (SW E S) (listed.setIfInBounds j true) w := by
    intro w hdd
    cases k with
    | none => cases hk.1.2
    | some kk =>
      have h1 : listed.getD kk true = true := hk.1.2
      have h2 : (listed.setIfInBounds j true).getD kk true = false := hdd
      by_cases e : kk = j
      · subst e
        rw [getD_set_same (ready_size hj')] at h2; cases h2
      · rw [getD_set_other e, h1] at h2; cases h2
  unfold wpOp
  simp only [hi]
  rw [if_pos (hwant a hr)]
  exact .inl (hx.into hd hr hw fun v h' a' w' hkk hr' hw' => ⟨hdn w', (H v h' hkk).run _ hk.2 (hcl.list hj') hsel E a' w' (hdn w') hr' hw' _ rfl⟩)
theorem hs_xa {S : Heap → Prop} {σ : List (Nat × Nat)} {i : Nat} {K : Value → Heap → Prop} (hi : ops[i]? = some o) (hg : o.guard = none) (hd : dstOk n o.dst = true) (hx : Ex P o r h K)
    (H : ∀ v h', K v h' → Hs P n ops X k S σ (updO r o.dst v) h') : Hs P n ops X k S ((i, 3) :: σ) r h :=
  hs_actA hi hd (fun a _ => by simp [Region.wanted, hg]) hx H
theorem hs_gn1 {S : Heap → Prop} {σ : List (Nat × Nat)} {i : Nat} {g : Nat} {want b : Bool} {t : Nat} (hi : ops[i]? = some o) (hg : o.guard = some (g, want)) (hs : gslot ops g = some t) (ht : Nat.blt t n.n = true) (hb : r t = .bool b) (hwt : b = !want)
    (hd : dstOk n o.dst = true) (H : Hs P n ops X k S σ (updO r o.dst undef) h) : Hs P n ops X k S ((i, 1) :: σ) r h :=
  hs_take1 hi hd (fun E a hr => .inr ⟨by rw [wanted_of hg hs ht hr hb, hwt]; cases want <;> rfl, rfl⟩) H

theorem wp_region_G {id : Nat} {Q : Exit → Act → World → Prop} {S : Array Bool → World → Prop} {a : Act} {w : World} (hm : P.follows .mixedOrders = true)
    (H : wpAnyG P ops Q S ops.size (Array.replicate ops.size false) a { w with drawn := w.drawn + 1 }) : (Code.region id ops true).wp P Q a w :=
  wp_region_any hm (wpAny_of_G _ _ _ _ H)
theorem cd_draw {id : Nat} (k : Option Nat) (S : Heap → Prop) (σ : List (Nat × Nat)) (hm : P.follows .mixedOrders = true) (hs : Region.noSelect ops = true) (hl : (σ.length == ops.size) = true) (hk : okOrd ops k σ (Array.replicate ops.size false) = true)
    (hS : S h) (H : Hs P n ops X k S σ r h) : Cd P n (.region id ops true) X r h :=
  ⟨fun E a w hr hw => wp_region_G (S := SG k (SW E S)) hm (H.run _ hk (fun j o hj hl => by
      rw [Array.getD_eq_getD_getElem?, Array.getElem?_replicate] at hl
      split at hl <;> cases hl) hs E a _ (fun _ => ⟨h, hw.drawn _, hS⟩) hr (hw.drawn _) _ (by simpa using (beq_iff_eq.1 hl).symm))⟩
end
end Go.X
