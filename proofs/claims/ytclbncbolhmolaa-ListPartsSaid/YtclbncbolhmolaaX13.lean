/- The library's sort of whole numbers, by its contract. -/
import Derived.Test.YtclbncbolhmolaaX8
import Derived.Test.YtclbncbolhmolaaProg
import Derived.Ground.NamesProg
import Derived.Shelf.Lay
import Derived.Shelf.Slices.In.SortNone
import Derived.Shelf.Sort.Plain
import Derived.Lib.SortBridge
set_option linter.unusedSimpArgs false
set_option linter.unusedVariables false
namespace Go.Proofs
open Go.Shelf
shelf_lay Lays.n189 Nm 189 at Try as Try.laysSort
end Go.Proofs
namespace Go.X
open Go Go.Proofs Go.Shelf Go.Sort

theorem frozen_blk {h : Heap} {w : World} {b o : Nat} {cs : Array Value} {T : TypeId} (hw : w.heap = h) (hb : h[b]? = some (.cells cs T (0, 0))) : w.frozen? ⟨b, o, none⟩ = false := by
  subst hw
  simp [World.frozen?, hb]
theorem flat1 {α : Type} (f : α → Value) : ∀ l : List α, l.flatMap (sc f) = l.map f
  | [] => rfl
  | a :: l => by rw [List.flatMap_cons, flat1 f l]; rfl
theorem c_sortI {h : Heap} {v : Value} {b c : Nat} {T : TypeId} {xs : List Int} {L : List HP} (H : Sep h (rowP eI 1 T v b c xs :: L)) (hl : xs.length ≤ 4194304) :
    FnT Try.prog 75 [v] h (fun v' h' => v' = .tuple #[] ∧ Sep h' (rowP eI 1 T v b c (xs.mergeSort fun x y => decide (x ≤ y)) :: L)) := by
  refine ⟨fun E w hw => ?_⟩
  obtain ⟨F, F1, F2, eF, dF, hA, hL⟩ := H.out
  rcases hA with ⟨rfl, rfl, rfl, hn⟩ | ⟨cur, rfl, g2, g3, g4, g5, g6, g7⟩
  · refine (Any.slices_Sort_int_none Try.laysSort none 0 w).mono fun e w' ⟨he, hw'⟩ => ?_
    subst hw'
    exact ⟨_, h, he, hw, rfl, by simpa using H⟩
  · have hc := (rowP_at eI_ok (F := F1) (.inr ⟨cur, rfl, g2, g3, g4, g5, g6, g7⟩)).2.1
    have hH : Holds (Value.int .i64) w b 0 xs.toArray := fun j hj => by
      have hj' : j < xs.length := by simpa using hj
      refine ⟨?_, frozen_blk hw.heap g7⟩
      have := hc j xs[j] (List.getElem?_eq_getElem hj') 0 _ rfl
      rw [cellH_eq hw.heap]
      simp only [Nat.mul_one, Nat.add_zero] at this
      rw [this]; simp [hj']
    have hblk : b < w.heap.size := by rw [hw.heap]; exact (Array.getElem?_eq_some_iff.1 g7).1
    refine (Any.slices_Sort_int Try.laysSort b 0 c xs w hH hblk (by omega)).mono fun e w' ⟨he, n, os, hw'⟩ => ?_
    obtain ⟨ys, hys⟩ : ∃ ys, xs.mergeSort (fun x y => decide (x ≤ y)) = ys := ⟨_, rfl⟩
    have hyl : ys.length = xs.length := by rw [← hys]; exact List.length_mergeSort _
    rw [hys] at hw' ⊢
    have hheap : w'.heap = (mapBlock (Sort.ahead w n) b (putCells (Value.int .i64) 0 ys.toArray)).heap ++ os := by rw [hw']; rfl
    have hsame : ∀ x, x < h.size → x ≠ b → w'.heap[x]? = h[x]? := fun x hx hne => by
      rw [hheap, Array.getElem?_append_left (by simp [mapBlock, Sort.ahead, hw.heap]; exact hx)]
      simp [mapBlock, Sort.ahead, hw.heap, Array.getElem?_modify, Ne.symm hne]
    have hb : w'.heap[b]? = some (.cells (putCells (Value.int .i64) 0 ys.toArray cur) T (0, 0)) := by
      have hlt := (Array.getElem?_eq_some_iff.1 g7).1
      rw [hheap, Array.getElem?_append_left (by simp [mapBlock, Sort.ahead, hw.heap]; exact hlt)]
      simp [mapBlock, Sort.ahead, hw.heap, Array.getElem?_modify, g7, onCells]
    refine ⟨.tuple #[], w'.heap, he, ⟨rfl, by rw [hw']; exact hw.os, by rw [hw']; exact hw.tape, by rw [hw']; exact hw.output⟩, rfl, F, F1, F2, eF, dF, .inr ⟨putCells (Value.int .i64) 0 ys.toArray cur, by rw [hyl], by rw [hyl]; exact g2, g3, by simp [putCells, g4], ?_, g6, hb⟩, (Seps L).loc hL fun x hx => ?_⟩
    · apply List.ext_getElem?
      intro i
      rw [List.getElem?_take, flat1 (Value.int .i64) ys]
      have hcs : ys.length ≤ cur.size := by rw [hyl, g4]; omega
      by_cases hi : i < ys.length * 1
      · have hi' : i < cur.size := by omega
        rw [if_pos hi]
        simp [putCells, hi', show i < ys.length by omega]
      · rw [if_neg hi]
        symm
        rw [List.getElem?_eq_none]
        simp; omega
    · have hxl := (Seps L).bd hL x hx
      exact hsame x hxl fun e => dF x ((g6 x).2 e) hx
end Go.X
