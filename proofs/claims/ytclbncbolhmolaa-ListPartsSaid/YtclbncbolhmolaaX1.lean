/- The operations that touch no memory, a rule each. -/
import Derived.Test.YtclbncbolhmolaaX0
import Derived.Laws.Bits
import Derived.Laws.Small
namespace Go.X
open Go

section
variable {P : Program} {o : Oper} {r : Rg} {S : Heap → Prop}

theorem yl_mk {v : Value} (H : ∀ w, S w.heap → (execOp (ev r) o).run P w = .ok (.value v) w) : Yl P o r S v := ⟨H⟩

theorem y_move {x : Operand} {v : Value} (ho : o.op = .move x) (hx : ev r x = v) : Yl P o r S v := ⟨fun w _ => by simp [execOp, ho, hx]⟩
theorem y_assign {x : Operand} {v : Value} (ho : o.op = .assign x) (hx : ev r x = v) : Yl P o r S v := ⟨fun w _ => by simp [execOp, ho, hx]⟩
theorem y_pick {c x y : Operand} {b : Bool} {v : Value} (ho : o.op = .pick c x y) (hc : ev r c = .bool b) (hv : (cond b (ev r x) (ev r y)) = v) : Yl P o r S v :=
  ⟨fun w _ => by subst hv; cases b <;> simp [execOp, ho, hc, asBool]⟩
theorem y_pick_t {c x y : Operand} {b : Bool} {v : Value} (ho : o.op = .pick c x y) (hc : ev r c = .bool b) (hb : b = true) (hv : ev r x = v) : Yl P o r S v :=
  y_pick ho hc (by rw [hb]; exact hv)
theorem y_pick_f {c x y : Operand} {b : Bool} {v : Value} (ho : o.op = .pick c x y) (hc : ev r c = .bool b) (hb : b = false) (hv : ev r y = v) : Yl P o r S v :=
  y_pick ho hc (by rw [hb]; exact hv)
theorem y_nilCheck {x : Operand} {a : Addr} (ho : o.op = .nilCheck x) (hx : ev r x = .pointer (some a)) : Yl P o r S (.pointer (some a)) :=
  ⟨fun w _ => by simp [execOp, ho, hx]⟩
theorem y_nilCheckI {x : Operand} {t : TypeId} {v : Value} (ho : o.op = .nilCheck x) (hx : ev r x = .iface t v) : Yl P o r S (.iface t v) :=
  ⟨fun w _ => by simp [execOp, ho, hx]⟩
theorem y_nilCheckF {x : Operand} {f : FuncId} {a c : Array Value} (ho : o.op = .nilCheck x) (hx : ev r x = .func (.func f) a c) : Yl P o r S (.func (.func f) a c) :=
  ⟨fun w _ => by simp [execOp, ho, hx]⟩
theorem y_extract {x : Operand} {vs : List Value} {i : Nat} {v : Value} (ho : o.op = .extract x i) (hx : ev r x = .tuple vs.toArray) (hv : vs[i]? = some v) : Yl P o r S v :=
  ⟨fun w _ => by simp [execOp, ho, hx, Instr.extract, hv]⟩

/-! whole numbers -/
variable {T T' : TypeId} {x y : Operand} {k : IntKind} {i j : Int}
theorem y_add (ho : o.op = .binOp .add T x y T') (hx : ev r x = .int k i) (hy : ev r y = .int k j) : Yl P o r S (.int k (k.wrap (i + j))) :=
  ⟨fun w _ => by simp [execOp, ho, hx, hy, eqGuard, binOp, Op.intArith]⟩
theorem y_sub (ho : o.op = .binOp .sub T x y T') (hx : ev r x = .int k i) (hy : ev r y = .int k j) : Yl P o r S (.int k (k.wrap (i - j))) :=
  ⟨fun w _ => by simp [execOp, ho, hx, hy, eqGuard, binOp, Op.intArith]⟩
theorem y_mul (ho : o.op = .binOp .mul T x y T') (hx : ev r x = .int k i) (hy : ev r y = .int k j) : Yl P o r S (.int k (k.wrap (i * j))) :=
  ⟨fun w _ => by simp [execOp, ho, hx, hy, eqGuard, binOp, Op.intArith]⟩
theorem y_lss (ho : o.op = .binOp .lss T x y T') (hx : ev r x = .int k i) (hy : ev r y = .int k j) : Yl P o r S (.bool (decide (i < j))) :=
  ⟨fun w _ => by simp [execOp, ho, hx, hy, eqGuard, binOp, Op.intCmp]⟩
theorem y_leq (ho : o.op = .binOp .leq T x y T') (hx : ev r x = .int k i) (hy : ev r y = .int k j) : Yl P o r S (.bool (decide (i ≤ j))) :=
  ⟨fun w _ => by simp [execOp, ho, hx, hy, eqGuard, binOp, Op.intCmp]⟩
theorem y_gtr (ho : o.op = .binOp .gtr T x y T') (hx : ev r x = .int k i) (hy : ev r y = .int k j) : Yl P o r S (.bool (decide (j < i))) :=
  ⟨fun w _ => by simp [execOp, ho, hx, hy, eqGuard, binOp, Op.intCmp]⟩
theorem y_geq (ho : o.op = .binOp .geq T x y T') (hx : ev r x = .int k i) (hy : ev r y = .int k j) : Yl P o r S (.bool (decide (j ≤ i))) :=
  ⟨fun w _ => by simp [execOp, ho, hx, hy, eqGuard, binOp, Op.intCmp]⟩
theorem y_eql (ho : o.op = .binOp .eql T x y T') (hx : ev r x = .int k i) (hy : ev r y = .int k j) : Yl P o r S (.bool (decide (i = j))) :=
  ⟨fun w _ => by
    have e : (i == j) = decide (i = j) := by by_cases h : i = j <;> simp [h]
    simp [execOp, ho, hx, hy, eqGuard, binOp, Op.intCmp, e]⟩
theorem y_neq (ho : o.op = .binOp .neq T x y T') (hx : ev r x = .int k i) (hy : ev r y = .int k j) : Yl P o r S (.bool (decide (¬ i = j))) :=
  ⟨fun w _ => by
    have e : (i != j) = decide (¬ i = j) := by by_cases h : i = j <;> simp [h]
    simp [execOp, ho, hx, hy, eqGuard, binOp, Op.intCmp, e]⟩
theorem y_quo (ho : o.op = .binOp .quo T x y T') (hx : ev r x = .int k i) (hy : ev r y = .int k j) (hj : j ≠ 0) : Yl P o r S (.int k (k.wrap (i.tdiv j))) :=
  ⟨fun w _ => by simp [execOp, ho, hx, hy, eqGuard, binOp, Op.intDiv, hj]⟩
theorem y_rem (ho : o.op = .binOp .rem T x y T') (hx : ev r x = .int k i) (hy : ev r y = .int k j) (hj : j ≠ 0) : Yl P o r S (.int k (i.tmod j)) :=
  ⟨fun w _ => by simp [execOp, ho, hx, hy, eqGuard, binOp, Op.intDiv, hj]⟩
theorem y_shl {k' : IntKind} (ho : o.op = .binOp .shl T x y T') (hx : ev r x = .int k i) (hy : ev r y = .int k' j) (hj : 0 ≤ j) : Yl P o r S (.int k (k.wrap (i * 2 ^ min j.toNat k.bits))) :=
  ⟨fun w _ => by have : ¬ j < 0 := by omega
                 simp [execOp, ho, hx, hy, eqGuard, binOp, Op.shift, this]⟩
theorem y_shr {k' : IntKind} (ho : o.op = .binOp .shr T x y T') (hx : ev r x = .int k i) (hy : ev r y = .int k' j) (hj : 0 ≤ j) : Yl P o r S (.int k (i / 2 ^ min j.toNat k.bits)) :=
  ⟨fun w _ => by have : ¬ j < 0 := by omega
                 have e : i.fdiv (2 ^ min j.toNat k.bits) = i / 2 ^ min j.toNat k.bits := Int.fdiv_eq_ediv_of_nonneg _ (Int.pow_nonneg (by decide))
                 simp [execOp, ho, hx, hy, eqGuard, binOp, Op.shift, this, e]⟩
theorem y_bits {op : BinOp} (hop : (match op with | .and | .or | .xor | .andNot => true | _ => false) = true) (ho : o.op = .binOp op T x y T') (hx : ev r x = .int k i) (hy : ev r y = .int k j) : Yl P o r S (.int k (Go.bits op k i j)) :=
  ⟨fun w _ => by cases op <;> first | (cases hop; done) | (simp [execOp, ho, hx, hy, eqGuard, binOp, Op.intBits, Go.bits])⟩

theorem wrap_i64 {n : Int} (h0 : -9223372036854775808 ≤ n) (h1 : n ≤ 9223372036854775807) : IntKind.i64.wrap n = n := by rw [IntKind.wrap_i64]; omega
theorem wrap_u64 (n : Int) : IntKind.u64.wrap n = n % 18446744073709551616 := by simp [IntKind.wrap, IntKind.bits, IntKind.signed]
theorem wrap_u64' {n : Int} (h0 : 0 ≤ n) (h1 : n < 18446744073709551616) : IntKind.u64.wrap n = n := by rw [wrap_u64]; omega
theorem wrap_u32' {n : Int} (h0 : 0 ≤ n) (h1 : n < 4294967296) : IntKind.u32.wrap n = n := by rw [IntKind.wrap_u32]; omega
theorem wrap_u8' {n : Int} (h0 : 0 ≤ n) (h1 : n < 256) : IntKind.u8.wrap n = n := by rw [IntKind.wrap_u8]; omega

/-- does a number fit its kind? in plain bounds -/
def inK : IntKind → Int → Prop
  | .i64, n => -9223372036854775808 ≤ n ∧ n ≤ 9223372036854775807
  | .u64, n => 0 ≤ n ∧ n ≤ 18446744073709551615
  | .u32, n => 0 ≤ n ∧ n ≤ 4294967295
  | .u8, n => 0 ≤ n ∧ n ≤ 255
  | _, _ => False
theorem wrap_in {k : IntKind} {n : Int} (h : inK k n) : k.wrap n = n := by
  cases k <;> first | exact h.elim | skip
  · exact wrap_i64 h.1 h.2
  · exact wrap_u8' h.1 (by have := h.2; omega)
  · exact wrap_u32' h.1 (by have := h.2; omega)
  · exact wrap_u64' h.1 (by have := h.2; omega)

theorem y_addi (ho : o.op = .binOp .add T x y T') (hx : ev r x = .int k i) (hy : ev r y = .int k j) (hb : inK k (i + j)) : Yl P o r S (.int k (i + j)) := by
  have := y_add (P := P) (S := S) ho hx hy; rwa [wrap_in hb] at this
theorem y_subi (ho : o.op = .binOp .sub T x y T') (hx : ev r x = .int k i) (hy : ev r y = .int k j) (hb : inK k (i - j)) : Yl P o r S (.int k (i - j)) := by
  have := y_sub (P := P) (S := S) ho hx hy; rwa [wrap_in hb] at this
theorem y_muli (ho : o.op = .binOp .mul T x y T') (hx : ev r x = .int k i) (hy : ev r y = .int k j) (hb : inK k (i * j)) : Yl P o r S (.int k (i * j)) := by
  have := y_mul (P := P) (S := S) ho hx hy; rwa [wrap_in hb] at this
theorem y_quoi (ho : o.op = .binOp .quo T x y T') (hx : ev r x = .int k i) (hy : ev r y = .int k j) (hb : inK k i) (h0 : 0 ≤ i) (hj : 0 < j) : Yl P o r S (.int k (i / j)) := by
  have h := y_quo (P := P) (S := S) ho hx hy (by omega)
  have e : i.tdiv j = i / j := Int.tdiv_eq_ediv_of_nonneg h0
  have h1 : 0 ≤ i / j := Int.ediv_nonneg h0 (by omega)
  have h2 : i / j ≤ i := Int.ediv_le_self _ h0
  rw [e, wrap_in] at h
  · exact h
  · cases k <;> first | exact hb.elim | (simp only [inK] at hb ⊢; omega)
theorem y_remi (ho : o.op = .binOp .rem T x y T') (hx : ev r x = .int k i) (hy : ev r y = .int k j) (h0 : 0 ≤ i) (hj : 0 < j) : Yl P o r S (.int k (i % j)) := by
  have h := y_rem (P := P) (S := S) ho hx hy (by omega)
  rwa [Int.tmod_eq_emod_of_nonneg h0] at h
theorem y_shri {k' : IntKind} (ho : o.op = .binOp .shr T x y T') (hx : ev r x = .int k i) (hy : ev r y = .int k' j) (hj : 0 ≤ j) (hj' : j ≤ k.bits) : Yl P o r S (.int k (i / 2 ^ j.toNat)) := by
  have h := y_shr (P := P) (S := S) ho hx hy hj
  rwa [Nat.min_eq_left (by omega)] at h
theorem y_shli {k' : IntKind} (ho : o.op = .binOp .shl T x y T') (hx : ev r x = .int k i) (hy : ev r y = .int k' j) (hj : 0 ≤ j) (hj' : j ≤ k.bits) (hb : inK k (i * 2 ^ j.toNat)) : Yl P o r S (.int k (i * 2 ^ j.toNat)) := by
  have h := y_shl (P := P) (S := S) ho hx hy hj
  rwa [Nat.min_eq_left (by omega), wrap_in hb] at h

theorem y_convi {src dst : TypeId} {k k' : IntKind} (ho : o.op = .convert src dst x) (hs : ∃ d, P.underlying src = some d) (hd : P.underlying dst = some (.int k')) (hx : ev r x = .int k i) : Yl P o r S (.int k' (k'.wrap i)) := by
  obtain ⟨d, hs⟩ := hs
  exact ⟨fun w _ => by simp [execOp, ho, hx, convert, run_underlying hs, run_underlying hd, Conv.intToInt]⟩
theorem y_convw {src dst : TypeId} {k k' : IntKind} (ho : o.op = .convert src dst x) (hs : ∃ d, P.underlying src = some d) (hd : P.underlying dst = some (.int k')) (hx : ev r x = .int k i) (hb : inK k' i) : Yl P o r S (.int k' i) := by
  have := y_convi (P := P) (S := S) ho hs hd hx; rwa [wrap_in hb] at this

theorem y_not {b : Bool} (ho : o.op = .unOp .not T x) (hx : ev r x = .bool b) : Yl P o r S (.bool (!b)) := ⟨fun w _ => by simp [execOp, ho, hx, Op.unary]⟩
theorem y_neg (ho : o.op = .unOp .neg T x) (hx : ev r x = .int k i) : Yl P o r S (.int k (k.wrap (0 - i))) := ⟨fun w _ => by simp [execOp, ho, hx, Op.unary, Op.intArith]⟩
theorem y_xor (ho : o.op = .unOp .xor T x) (hx : ev r x = .int k i) : Yl P o r S (.int k (Go.bits .xor k (if k.signed then -1 else k.max) i)) := ⟨fun w _ => by simp [execOp, ho, hx, Op.unary, Op.intBits, Go.bits]⟩

theorem y_max {ts : Array TypeId} (ho : o.op = .call { callee := .builtin .max, args := #[x, y], argTypes := ts }) (hx : ev r x = .int k i) (hy : ev r y = .int k j) : Yl P o r S (.int k (max i j)) :=
  ⟨fun w _ => by
    have e : (if j > i then j else i) = max i j := by split <;> omega
    simp [execOp, ho, hx, hy, resolve, invoke, builtin, Builtin.max_, Builtin.max2, e]⟩
theorem y_min {ts : Array TypeId} (ho : o.op = .call { callee := .builtin .min, args := #[x, y], argTypes := ts }) (hx : ev r x = .int k i) (hy : ev r y = .int k j) : Yl P o r S (.int k (min i j)) :=
  ⟨fun w _ => by
    have e : (if j < i then j else i) = min i j := by split <;> omega
    simp [execOp, ho, hx, hy, resolve, invoke, builtin, Builtin.min_, Builtin.min2, e]⟩
theorem y_len {t e : TypeId} {a : Option Addr} {n c : Nat} (ho : o.op = .call { callee := .builtin .len, args := #[x], argTypes := #[t] }) (ht : P.underlying t = some (.slice e)) (hx : ev r x = .slice a n c) : Yl P o r S (.int .i64 (n : Int)) :=
  ⟨fun w _ => by simp [execOp, ho, hx, resolve, invoke, builtin, Builtin.len_, run_underlying ht, goInt]⟩
theorem y_lenS {t : TypeId} {s : ByteArray} (ho : o.op = .call { callee := .builtin .len, args := #[x], argTypes := #[t] }) (ht : P.underlying t = some .string) (hx : ev r x = .string s) : Yl P o r S (.int .i64 (s.size : Int)) :=
  ⟨fun w _ => by simp [execOp, ho, hx, resolve, invoke, builtin, Builtin.len_, run_underlying ht, goInt]⟩
theorem y_cap {t e : TypeId} {a : Option Addr} {n c : Nat} (ho : o.op = .call { callee := .builtin .cap, args := #[x], argTypes := #[t] }) (ht : P.underlying t = some (.slice e)) (hx : ev r x = .slice a n c) : Yl P o r S (.int .i64 (c : Int)) :=
  ⟨fun w _ => by simp [execOp, ho, hx, resolve, invoke, builtin, Builtin.cap_, run_underlying ht, goInt]⟩

/-! pointers, nil -/
theorem run_eqIn_ptr (w : World) (d : Nat) {e : TypeId} (a : Option Addr) (hT : P.underlying T = some (.pointer e)) : (Op.equalIn (d + 1) T (.pointer a) (.pointer none)).run P w = .ok a.isNone w := by
  cases a <;> simp [Op.equalIn, run_underlying hT]
theorem run_eq_ptr (w : World) {e : TypeId} (a : Option Addr) (hT : P.underlying T = some (.pointer e)) : (Op.equal T (.pointer a) (.pointer none)).run P w = .ok a.isNone w := run_eqIn_ptr w 9999 a hT
theorem run_eqIn_sl (w : World) (d : Nat) {e : TypeId} (a : Option Addr) (n c n' c' : Nat) (hT : P.underlying T = some (.slice e)) : (Op.equalIn (d + 1) T (.slice a n c) (.slice none n' c')).run P w = .ok a.isNone w := by
  cases a <;> simp [Op.equalIn, run_underlying hT]
theorem run_eq_sl (w : World) {e : TypeId} (a : Option Addr) (n c n' c' : Nat) (hT : P.underlying T = some (.slice e)) : (Op.equal T (.slice a n c) (.slice none n' c')).run P w = .ok a.isNone w := run_eqIn_sl w 9999 a n c n' c' hT
theorem y_nilP {e : TypeId} {a : Option Addr} (ho : o.op = .binOp .eql T x y T') (hT : P.underlying T = some (.pointer e)) (hx : ev r x = .pointer a) (hy : ev r y = .pointer none) : Yl P o r S (.bool a.isNone) :=
  ⟨fun w _ => by
    have hb : (binOp .eql T (.pointer a) (.pointer none)).run P w = .ok (.bool a.isNone) w := by
      show ((do pure (.bool (← Op.equal T (.pointer a) (.pointer none)))) : Sem Value).run P w = _
      simp [run_eq_ptr w a hT]
    simp [execOp, ho, hx, hy, eqGuard, hb]⟩
theorem y_nnilP {e : TypeId} {a : Option Addr} (ho : o.op = .binOp .neq T x y T') (hT : P.underlying T = some (.pointer e)) (hx : ev r x = .pointer a) (hy : ev r y = .pointer none) : Yl P o r S (.bool (!a.isNone)) :=
  ⟨fun w _ => by
    have hb : (binOp .neq T (.pointer a) (.pointer none)).run P w = .ok (.bool (!a.isNone)) w := by
      show ((do pure (.bool (!(← Op.equal T (.pointer a) (.pointer none))))) : Sem Value).run P w = _
      simp [run_eq_ptr w a hT]
    simp [execOp, ho, hx, hy, eqGuard, hb]⟩
theorem y_nilS {e : TypeId} {a : Option Addr} {n c n' c' : Nat} (ho : o.op = .binOp .eql T x y T') (hT : P.underlying T = some (.slice e)) (hx : ev r x = .slice a n c) (hy : ev r y = .slice none n' c') : Yl P o r S (.bool a.isNone) :=
  ⟨fun w _ => by
    have hb : (binOp .eql T (.slice a n c) (.slice none n' c')).run P w = .ok (.bool a.isNone) w := by
      show ((do pure (.bool (← Op.equal T (.slice a n c) (.slice none n' c')))) : Sem Value).run P w = _
      simp [run_eq_sl w a n c n' c' hT]
    simp [execOp, ho, hx, hy, eqGuard, hb]⟩
theorem y_nnilS {e : TypeId} {a : Option Addr} {n c n' c' : Nat} (ho : o.op = .binOp .neq T x y T') (hT : P.underlying T = some (.slice e)) (hx : ev r x = .slice a n c) (hy : ev r y = .slice none n' c') : Yl P o r S (.bool (!a.isNone)) :=
  ⟨fun w _ => by
    have hb : (binOp .neq T (.slice a n c) (.slice none n' c')).run P w = .ok (.bool (!a.isNone)) w := by
      show ((do pure (.bool (!(← Op.equal T (.slice a n c) (.slice none n' c'))))) : Sem Value).run P w = _
      simp [run_eq_sl w a n c n' c' hT]
    simp [execOp, ho, hx, hy, eqGuard, hb]⟩

/-! addresses -/
def fieldOff (P : Program) (s : TypeId) (f : Nat) : Option Nat :=
  match P.underlying s with
  | some (.struct fs) => (fs[f]?).bind fun x => match P.info? x.type with | some i => if i.size = 0 then none else some x.offset | none => none
  | _ => none
theorem y_fieldAddr {s : TypeId} {f off b p : Nat} (ho : o.op = .fieldAddr s x f) (hf : fieldOff P s f = some off) (hx : ev r x = .pointer (some ⟨b, p, none⟩)) : Yl P o r S (.pointer (some ⟨b, p + off, none⟩)) := by
  unfold fieldOff at hf
  cases hu : P.underlying s with
  | none => rw [hu] at hf; cases hf
  | some d =>
    rw [hu] at hf
    cases d <;> first | (cases hf; done) | skip
    rename_i fs
    dsimp only at hf
    cases hg : fs[f]? with
    | none => rw [hg] at hf; cases hf
    | some fd =>
      rw [hg] at hf
      simp only [Option.bind_some] at hf
      cases hi : P.info? fd.type with
      | none => rw [hi] at hf; cases hf
      | some i =>
        rw [hi] at hf
        simp only at hf
        split at hf
        · cases hf
        · rename_i hz
          cases hf
          refine ⟨fun w _ => ?_⟩
          simp [execOp, ho, hx, Instr.fieldAt, run_underlying hu, hg, Instr.sureAddr, fieldPlace, sizeOf, typeInfo, hi, hz, addr_add]

def szT (P : Program) (e : TypeId) : Option Nat := (P.info? e).map (·.size)
theorem run_sizeOf {e : TypeId} {sz : Nat} (h : szT P e = some sz) (w : World) : (sizeOf e).run P w = .ok sz w := by
  unfold szT at h
  cases hi : P.info? e with
  | none => rw [hi] at h; cases h
  | some i => rw [hi] at h; cases h; simp [sizeOf, typeInfo, hi]

theorem y_indexAddr {t e : TypeId} {sz b p n c : Nat} (ho : o.op = .indexAddr t x y) (ht : P.underlying t = some (.slice e)) (hs : szT P e = some sz) (hx : ev r x = .slice (some ⟨b, p, none⟩) n c) (hy : ev r y = .int k i)
    (h0 : 0 ≤ i) (h1 : i < n) : Yl P o r S (.pointer (some ⟨b, p + i.toNat * sz, none⟩)) :=
  ⟨fun w _ => by simp [execOp, ho, hx, hy, Instr.indexAt, asIntOf, run_underlying ht, h0, h1, run_sizeOf hs, addr_add]⟩
/-- An element of an array in memory. -/
theorem y_indexAddrA {t e : TypeId} {sz b p n : Nat} (ho : o.op = .indexAddr t x y) (ht : P.underlying t = some (.array n e)) (hs : szT P e = some sz) (hx : ev r x = .pointer (some ⟨b, p, none⟩)) (hy : ev r y = .int k i)
    (h0 : 0 ≤ i) (h1 : i < n) : Yl P o r S (.pointer (some ⟨b, p + i.toNat * sz, none⟩)) :=
  ⟨fun w _ => by simp [execOp, ho, hx, hy, Instr.indexAt, asIntOf, run_underlying ht, Instr.sureAddr, h0, h1, run_sizeOf hs, addr_add]⟩

theorem y_load {t : TypeId} {b p : Nat} {v : Value} (ho : o.op = .load t x) (hx : ev r x = .pointer (some ⟨b, p, none⟩)) (hl : ∀ h, S h → Ld P t h b p v) : Yl P o r S v :=
  ⟨fun w hw => by simp [execOp, ho, hx, Instr.loadAt, Instr.sureAddr, (hl _ hw).run w rfl]⟩

/-- s[lo:hi] of a slice -/
def slBase (b p sz l m : Nat) : Option Addr := if m = l then some ⟨b, p, none⟩ else some ⟨b, p + l * sz, none⟩
theorem y_sliceHi {t e : TypeId} {sz b p n c : Nat} (ho : o.op = .slice t x none (some y) none) (ht : P.underlying t = some (.slice e)) (hs : szT P e = some sz) (hx : ev r x = .slice (some ⟨b, p, none⟩) n c) (hy : ev r y = .int k i)
    (h0 : 0 ≤ i) (h1 : i ≤ c) : Yl P o r S (.slice (some ⟨b, p, none⟩) i.toNat c) :=
  ⟨fun w _ => by simp [execOp, ho, hx, hy, Instr.sliceAt, Instr.slice, Instr.sliceBounds, Instr.sliceBound, asIntOf, run_underlying ht, h0, h1, run_sizeOf hs, addr_add]⟩
theorem y_sliceLo {t e : TypeId} {sz b p n c : Nat} (ho : o.op = .slice t x (some y) none none) (ht : P.underlying t = some (.slice e)) (hs : szT P e = some sz) (hx : ev r x = .slice (some ⟨b, p, none⟩) n c) (hy : ev r y = .int k i)
    (h0 : 0 ≤ i) (h1 : i ≤ n) : Yl P o r S (.slice (slBase b p sz i.toNat c) (n - i.toNat) (c - i.toNat)) :=
  ⟨fun w _ => by
    unfold slBase
    by_cases hc : c = i.toNat
    · simp [execOp, ho, hx, hy, Instr.sliceAt, Instr.slice, Instr.sliceBounds, Instr.sliceBound, asIntOf, run_underlying ht, h0, h1, run_sizeOf hs, addr_add, hc]
    · simp [execOp, ho, hx, hy, Instr.sliceAt, Instr.slice, Instr.sliceBounds, Instr.sliceBound, asIntOf, run_underlying ht, h0, h1, run_sizeOf hs, addr_add, hc]⟩

/-! interfaces -/
def concT (P : Program) (T : TypeId) : Bool :=
  match P.underlying T with
  | some (.interface _) | none => false
  | _ => true
theorem y_makeInterface {v : Value} (ho : o.op = .makeInterface T x) (hT : concT P T = true) (hx : ev r x = v) : Yl P o r S (.iface T v) := by
  unfold concT at hT
  cases hu : P.underlying T with
  | none => rw [hu] at hT; cases hT
  | some d => exact ⟨fun w _ => by cases d <;> first | (rw [hu] at hT; cases hT; done) | (simp [execOp, ho, hx, Instr.makeInterface, run_underlying hu])⟩
theorem y_typeAssert {xt : TypeId} {v : Value} (ho : o.op = .typeAssert x xt T false) (hT : concT P T = true) (hx : ev r x = .iface T v) : Yl P o r S v := by
  unfold concT at hT
  cases hu : P.underlying T with
  | none => rw [hu] at hT; cases hT
  | some d => exact ⟨fun w _ => by cases d <;> first | (rw [hu] at hT; cases hT; done) | (simp [execOp, ho, hx, Instr.typeAssert, run_underlying hu])⟩
end
end Go.X
