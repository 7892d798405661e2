/- Small rules that the printed walks name. -/
import Derived.Test.YtclbncbolhmolaaX5
namespace Go.X
open Go

theorem ldeq {P : Program} {T : TypeId} {h h' : Heap} {b p : Nat} {v : Value} (e : h' = h) (H : Ld P T h b p v) : Ld P T h' b p v := e ▸ H
theorem ldBlk {P : Program} {T Tb : TypeId} {h : Heap} {b k : Nat} {cs : List Value} {z : Nat × Nat} (hT : aggT P T = some k) (hb : h[b]? = some (.cells cs.toArray Tb z)) (hk : cs.length = k) : Ld P T h b 0 (.agg cs.toArray) :=
  ldN hT hk fun j v hv => cellH_blk hb (by simpa using hv)
theorem Yl.eq {P : Program} {o : Oper} {r : Rg} {S : Heap → Prop} {v v' : Value} (H : Yl P o r S v) (e : v = v') : Yl P o r S v' := e ▸ H
theorem in64 {n : Int} (h0 : -9223372036854775808 ≤ n) (h1 : n ≤ 9223372036854775807) : inK .i64 n := ⟨h0, h1⟩
theorem inu64 {n : Int} (h0 : 0 ≤ n) (h1 : n ≤ 18446744073709551615) : inK .u64 n := ⟨h0, h1⟩
theorem inu32 {n : Int} (h0 : 0 ≤ n) (h1 : n ≤ 4294967295) : inK .u32 n := ⟨h0, h1⟩
theorem inu8 {n : Int} (h0 : 0 ≤ n) (h1 : n ≤ 255) : inK .u8 n := ⟨h0, h1⟩

section
variable {P : Program} {n : Fd} {ops : Array Oper} {X : Exit → Rg → Heap → Prop} {o : Oper} {l : List Oper} {r : Rg} {h : Heap}
theorem ol_split {t : Nat} {b : Bool} (hb : r t = .bool b) (h1 : b = true → Ol P n ops X l r h) (h2 : b = false → Ol P n ops X l r h) : Ol P n ops X l r h := by
  cases b
  · exact h2 rfl
  · exact h1 rfl
theorem hs_split {S : Heap → Prop} {k : Option Nat} {σ : List (Nat × Nat)} {t : Nat} {b : Bool} (hb : r t = .bool b) (h1 : b = true → Hs P n ops X k S σ r h) (h2 : b = false → Hs P n ops X k S σ r h) : Hs P n ops X k S σ r h := by
  cases b
  · exact h2 rfl
  · exact h1 rfl
end

section
variable {K : Rg → Heap → Prop} {X : Exit → Rg → Heap → Prop} {r : Rg} {h : Heap} {i j : Nat}
theorem thenX_n (H : K r h) : thenX K X .normal r h := H
theorem thenX_r (H : X .ret r h) : thenX K X .ret r h := H
theorem thenX_e (H : X (.exit i) r h) : thenX K X (.exit i) r h := H
theorem blockX_n (H : X .normal r h) : blockX i X .normal r h := H
theorem blockX_r (H : X .ret r h) : blockX i X .ret r h := H
theorem blockX_hit (H : X .normal r h) : blockX i X (.exit i) r h := by
  have : Nat.beq i i = true := by simp
  simp only [blockX, this, cond_true]; exact H
theorem blockX_miss (e : Nat.beq j i = false) (H : X (.exit j) r h) : blockX i X (.exit j) r h := by
  simp only [blockX, e, cond_false]; exact H
end
end Go.X
