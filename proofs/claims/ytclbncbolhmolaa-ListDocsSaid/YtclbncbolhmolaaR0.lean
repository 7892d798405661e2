/- How a law's row is closed: its arguments opened, its walk's word turned into the row's. -/
import Derived.Test.YtclbncbolhmolaaX4
import Derived.WalkKit
import Derived.ProofKit
import Derived.OpenShut
import Derived.ShutString
import Derived.ChangeOld
import Derived.ChangeSlices
import Derived.Below
import Derived.Carry
import Derived.SizedLaws
namespace Go.X
open Go Go.RowKit Go.ChangeShapes Go.WideShapes

theorem calls_true {P : Program} {f : FuncId} {args : List Value} {W : World} (H : FnT P f args W.heap (fun v h' => v = .bool true ∧ Ext W.heap h')) :
    Calls P f args.toArray W fun e W' => e = .returned (.bool true) ∧ Below W.heap.size W W' :=
  (H.run ⟨W.os, W.tape, W.output⟩ W ⟨rfl, rfl, rfl, rfl⟩).mono fun e W' ⟨v, h', he, hw, hv, hx⟩ =>
    ⟨by rw [he, hv], hw.os, hw.tape, hw.output, by rw [hw.heap]; exact hx.size, fun k hk => by rw [hw.heap]; exact hx.same k hk⟩

section
variable {H : Type} {enc : TypeId × Value → H} {P : Program} {W : World} {base : Nat} {sp : Nat → Bool} {held : Bool} {r : Reach} {b0 : Nat} {t e : TypeId} {q : IntKind} {v : Value} {d : DataW H} {ps : List MemPlace}

theorem trod_lt1 (h : DataW.Trod enc P W base sp held t v d ps) : ∀ x ∈ ps, x.block < W.heap.size := by obtain ⟨m, hm⟩ := h; exact DataW.trod_lt m _ _ _ hm

/-- a slice of whole numbers -/
theorem open_sl (ht : P.underlying t = some (.slice e)) (he : P.underlying e = some (.int q)) (hc : P.cellsOf e = 1) (hval : Value.okWide P W r b0 t v) (hd : DataW.Trod enc P W base sp held t v d ps) :
    ∃ (b p c : Nat) (xs : List Int), SlV v b p xs.length c ∧ Rd (sc (Value.int q)) 1 W.heap b p xs ∧ xs.length ≤ c ∧ c ≤ maxLen ∧ ∀ x ∈ xs, (Lit.int q x).wf = true := by
  obtain ⟨a, len, cap, rfl⟩ := okWide_slice ht hval
  obtain ⟨fuel, hf⟩ := hd
  rcases open_ints ht he hc hf with ⟨hcs, _⟩ | ⟨x, l, c, zs, hcs, _, hl, hm, hz, _, hcell, hwz⟩
  · simp [Value.cells] at hcs
    obtain ⟨rfl, rfl, rfl⟩ := hcs
    exact ⟨0, 0, 0, [], SlV.nil 0 0, fun i x hx => by simp at hx, Nat.le_refl _, Nat.zero_le _, by simp⟩
  · simp [Value.cells] at hcs
    obtain ⟨rfl, rfl, rfl⟩ := hcs
    have hs : x.spot = none := by
      simp only [Value.okWide, ht, Cell.okWide, Cell.ok] at hval
      exact hval.2.2.2.1
    obtain ⟨b, p, s⟩ := x
    simp only at hs
    subst hs
    have hle : len ≤ zs.length := by rw [hz]; split <;> omega
    have hlen : (zs.take len).length = len := by rw [List.length_take]; omega
    refine ⟨b, p, cap, zs.take len, by rw [hlen]; exact SlV.mk' b p len cap, fun i y hy j u hu => ?_, by rw [hlen]; exact hl, hm, fun y hy => hwz y (List.mem_of_mem_take hy)⟩
    have hi : i < len := by have := (List.getElem?_eq_some_iff.1 hy).1; omega
    cases j with
    | succ j => simp [sc] at hu
    | zero =>
      simp [sc] at hu
      subst hu
      rw [List.getElem?_take, if_pos hi] at hy
      have := hcell i (by omega)
      rw [add_plain] at this
      rw [← cellH_eq (w := W) rfl, show p + i * 1 + 0 = p + i by omega, this]
      simp [List.getD_eq_getElem?_getD, hy]

theorem ints_of_cells : ∀ (cs : List Value), (∀ (i : Nat) (c : Value), cs[i]? = some c → ∃ z : Int, c = Value.int q z ∧ (Lit.int q z).wf = true) → ∃ zs : List Int, cs = zs.map (Value.int q) ∧ ∀ z ∈ zs, (Lit.int q z).wf = true
  | [], _ => ⟨[], rfl, by simp⟩
  | c :: cs, h => by
    obtain ⟨z, rfl, hz⟩ := h 0 c rfl
    obtain ⟨zs, rfl, hzs⟩ := ints_of_cells cs fun i c hc => h (i + 1) c (by simpa using hc)
    exact ⟨z :: zs, rfl, by simpa using ⟨hz, hzs⟩⟩
/-- an array of whole numbers -/
theorem open_arrI {n : Nat} (ht : P.underlying t = some (.array n e)) (he : P.underlying e = some (.int q)) (hc : P.cellsOf e = 1) (hcn : P.cellsOf t = n) (hval : Value.okWide P W r b0 t v) (hd : DataW.Trod enc P W base sp held t v d ps) :
    ∃ zs : List Int, v = .agg (zs.map (Value.int q)).toArray ∧ zs.length = n ∧ ∀ z ∈ zs, (Lit.int q z).wf = true := by
  simp only [Value.okWide, ht] at hval
  obtain ⟨cs, rfl, hsz, _⟩ := hval
  obtain ⟨fuel, hf⟩ := hd
  obtain ⟨xs, m, _, _, h1, h2, h3⟩ := DataW.trod_array ht hf
  rw [hcn] at hsz
  obtain ⟨zs, hzs, hw⟩ := ints_of_cells (q := q) cs.toList fun i c hi => by
    have hlt : i < n := by have := (List.getElem?_eq_some_iff.1 hi).1; simp at this; omega
    have := h3 i hlt
    rw [hc] at this
    have hx : xs[i]? = some xs[i] := List.getElem?_eq_getElem (by omega)
    rw [hx] at this
    obtain ⟨z, ez, _, wz⟩ := DataW.trod_int he this
    have h4 : ((Value.agg cs).cells.toList.drop (i * 1)).take 1 = [c] := by
      simp only [Value.cells, Nat.mul_one]
      rw [List.drop_eq_getElem_cons (show i < cs.toList.length from (List.getElem?_eq_some_iff.1 hi).1)]
      have := (List.getElem?_eq_some_iff.1 hi).2
      simp [← this]
    rw [h4] at ez
    exact ⟨z, by simpa using ez, wz⟩
  refine ⟨zs, ?_, ?_, hw⟩
  · rw [← hzs]
  · have := congrArg List.length hzs
    simp at this; omega
theorem len2 {zs : List Int} (h : zs.length = 2) : ∃ a b, zs = [a, b] := by
  match zs, h with
  | [a, b], _ => exact ⟨a, b, rfl⟩
theorem len3 {zs : List Int} (h : zs.length = 3) : ∃ a b c, zs = [a, b, c] := by
  match zs, h with
  | [a, b, c], _ => exact ⟨a, b, c, rfl⟩
end
end Go.X
