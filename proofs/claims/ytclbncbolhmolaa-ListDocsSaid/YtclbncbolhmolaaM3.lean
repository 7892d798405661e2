/- Plain: bits written into words; the rows of a wavelet matrix. -/
import Derived.Test.YtclbncbolhmolaaM2
namespace Go.X
open Go

/-! ### words bit by bit -/
theorem ofInt_cast (a : Nat) : BitVec.ofInt 64 (a : Int) = BitVec.ofNat 64 a := by simp
theorem bits64 (op : BinOp) (a b : Nat) : ∃ X : BitVec 64, Go.bits op .u64 (a : Int) (b : Int) = (X.toNat : Int) ∧ X = (match op with
    | .and => BitVec.ofNat 64 a &&& BitVec.ofNat 64 b | .or => BitVec.ofNat 64 a ||| BitVec.ofNat 64 b | .xor => BitVec.ofNat 64 a ^^^ BitVec.ofNat 64 b | _ => BitVec.ofNat 64 a &&& ~~~BitVec.ofNat 64 b) := by
  refine ⟨_, ?_, rfl⟩
  unfold Go.bits
  simp only [IntKind.bits]
  rw [ofInt_cast, ofInt_cast]
  have hlt : ∀ X : BitVec 64, IntKind.u64.wrap (X.toNat : Int) = (X.toNat : Int) := fun X => wrap_u64' (by omega) (by have := X.isLt; omega)
  cases op <;> exact hlt _
theorem andNot_u64 {a b : Nat} : ∃ r : Nat, Go.bits .andNot .u64 (a : Int) (b : Int) = (r : Int) ∧ r < 18446744073709551616 ∧ ∀ j, j < 64 → r.testBit j = (a.testBit j && !b.testBit j) := by
  obtain ⟨X, h1, h2⟩ := bits64 .andNot a b
  refine ⟨X.toNat, h1, X.isLt, fun j hj => ?_⟩
  rw [← BitVec.getLsbD, h2]
  simp only [BitVec.getLsbD_and, BitVec.getLsbD_not, BitVec.getLsbD_ofNat, hj, decide_true, Bool.true_and]
theorem or_u64 {a b : Nat} : ∃ r : Nat, Go.bits .or .u64 (a : Int) (b : Int) = (r : Int) ∧ r < 18446744073709551616 ∧ ∀ j, j < 64 → r.testBit j = (a.testBit j || b.testBit j) := by
  obtain ⟨X, h1, h2⟩ := bits64 .or a b
  refine ⟨X.toNat, h1, X.isLt, fun j hj => ?_⟩
  rw [← BitVec.getLsbD, h2]
  simp only [BitVec.getLsbD_or, BitVec.getLsbD_ofNat, hj, decide_true, Bool.true_and]

theorem shl1 {s : Nat} (hs : s < 64) : IntKind.u64.wrap (1 * 2 ^ s) = ((2 ^ s : Nat) : Int) := by
  have hp : 2 ^ s ≤ 2 ^ 63 := Nat.pow_le_pow_right (by decide) (by omega)
  have h0 := Nat.two_pow_pos s
  have e : (1 : Int) * 2 ^ s = ((2 ^ s : Nat) : Int) := by simp
  rw [e, wrap_u64' (by omega) (by omega)]

/-- bit i of a list of width 1 is set -/
theorem setW_one {ws : List Int} {f : Nat → Bool} {n i : Nat} (H : WordsOf ws f n) (hi : i < n) : WordsOf (setW 1 ws i 1) (fun q => f q || decide (q = i)) n := by
  have hl := H.len
  have hlt : i / 64 < ws.length := by omega
  have hk : ((i : Int) * (1 : Nat) / 64).toNat = i / 64 := by omega
  have hs : ((i : Int) * (1 : Nat) % 64).toNat = i % 64 := by omega
  have hm : maskI 1 = 1 := rfl
  have hif : ¬ ((i : Int) * (1 : Nat) % 64 + (1 : Nat) > 64) := by omega
  have hmin : min (i % 64) IntKind.u64.bits = i % 64 := by simp only [IntKind.bits]; omega
  have hw := gt_get (xs := ws) (i := (i : Int) * (1 : Nat) / 64) (by omega) (by omega)
  have hrng := H.rng _ (List.mem_of_getElem? hw)
  rw [hk] at hw
  have hbit := H.bit _ _ hw
  obtain ⟨w, hww⟩ := Int.eq_ofNat_of_zero_le hrng.1
  rw [hww] at hbit hw hrng
  obtain ⟨r1, a1, a2, a3⟩ := andNot_u64 (a := w) (b := 2 ^ (i % 64))
  obtain ⟨r2, b1, b2, b3⟩ := or_u64 (a := r1) (b := 2 ^ (i % 64))
  have e : setW 1 ws i 1 = ws.set (i / 64) (r2 : Int) := by
    unfold setW
    dsimp only
    rw [if_neg hif, hk, hs, hm, hmin, shl1 (by omega), hww, a1, b1]
  rw [e]
  refine ⟨by simp [hl], fun x hx => ?_, fun k x hx j hj => ?_, fun q hq => ?_⟩
  · rcases List.mem_or_eq_of_mem_set hx with h | h
    · exact H.rng x h
    · subst h; omega
  · rw [List.getElem?_set] at hx
    by_cases ek : i / 64 = k
    · subst ek
      simp [hlt] at hx
      subst hx
      rw [Int.toNat_natCast, b3 j hj, a3 j hj, Nat.testBit_two_pow]
      have h1 := hbit j hj
      rw [Int.toNat_natCast] at h1
      rw [h1]
      by_cases ej : i % 64 = j
      · have : 64 * (i / 64) + j = i := by omega
        simp [ej, this]
      · have : ¬ 64 * (i / 64) + j = i := by omega
        simp [ej, this]
    · rw [if_neg ek] at hx
      have := H.bit k x hx j hj
      have hne : ¬ 64 * k + j = i := by omega
      simp [this, hne]
  · have := H.out q hq
    have hne : ¬ q = i := by omega
    simp [this, hne]

theorem words_zero (n : Nat) : WordsOf (List.replicate ((1 * n + 63) / 64) (0 : Int)) (fun _ => false) n :=
  ⟨by simp, fun w hw => by rw [(List.mem_replicate.1 hw).2]; omega, fun k w hk j _ => by
    have := List.mem_of_getElem? hk
    rw [(List.mem_replicate.1 this).2]; simp, fun _ _ => rfl⟩

/-! ### rows by bits -/
/-- bit k of a number -/
def bitI (k : Nat) (c : Int) : Bool := decide (c / 2 ^ k % 2 = 1)
theorem and1_i64 {y : Int} (h0 : 0 ≤ y) (h1 : y < 9223372036854775808) : Go.bits .and .i64 y 1 = y % 2 := by
  obtain ⟨a, rfl⟩ := Int.eq_ofNat_of_zero_le h0
  rw [show (1 : Int) = ((1 : Nat) : Int) from rfl, bits_and_i64 (by omega) (by decide), Nat.and_one_is_mod]
  omega
def nextRow (k : Nat) (l : List Int) : List Int := l.filter (fun c => !bitI k c) ++ l.filter (fun c => bitI k c)
/-- the row of level j of a matrix of width w -/
def lvRow (w : Nat) (l : List Int) : Nat → List Int
  | 0 => l
  | j + 1 => nextRow (w - 1 - j) (lvRow w l j)
/-- the bits of a row -/
def rowBits (k : Nat) (l : List Int) : Nat → Bool := fun i => match l[i]? with | some c => bitI k c | none => false
theorem filter_not_len {α : Type} (p : α → Bool) : ∀ l : List α, (l.filter fun c => !p c).length + (l.filter p).length = l.length
  | [] => rfl
  | c :: l => by
    have := filter_not_len p l
    cases h : p c <;> simp [h] <;> omega
theorem nextRow_length (k : Nat) (l : List Int) : (nextRow k l).length = l.length := by
  unfold nextRow; rw [List.length_append]; exact filter_not_len (bitI k) l
theorem lvRow_length (w : Nat) (l : List Int) : ∀ j, (lvRow w l j).length = l.length
  | 0 => rfl
  | j + 1 => by simp only [lvRow]; rw [nextRow_length, lvRow_length w l j]
theorem mem_nextRow {k : Nat} {l : List Int} {c : Int} : c ∈ nextRow k l ↔ c ∈ l := by
  unfold nextRow
  rw [List.mem_append, List.mem_filter, List.mem_filter]
  cases h : bitI k c <;> simp
theorem mem_lvRow {w : Nat} {l : List Int} {c : Int} : ∀ j, c ∈ lvRow w l j ↔ c ∈ l
  | 0 => Iff.rfl
  | j + 1 => by simp only [lvRow]; rw [mem_nextRow, mem_lvRow j]

/-- a wavelet matrix: of the row l, w levels; its lists of bits stand at vbs -/
structure MatF (h : Heap) (b : Nat) (l : List Int) (w : Nat) (vbs : List Nat) : Prop where
  out : ∃ (T : TypeId) (lv : Value) (lb lc : Nat), h[b]? = some (.cells [.int .i64 l.length, .int .i64 w, lv].toArray T (0, 0)) ∧ SlV lv lb 0 vbs.length lc ∧ Rd eP 1 h lb 0 vbs
  len : vbs.length = w
  lv : ∀ j vb, vbs[j]? = some vb → VecF h vb (rowBits (w - 1 - j) (lvRow w l j)) l.length
  rng : ∀ c ∈ l, 0 ≤ c ∧ c < 2 ^ w
  n : l.length ≤ 4194304
  w1 : 1 ≤ w
  w22 : w ≤ 22
theorem MatF.ext {h h' : Heap} {b w : Nat} {l : List Int} {vbs : List Nat} (H : MatF h b l w vbs) (e : Ext h h') : MatF h' b l w vbs := by
  obtain ⟨T, lv, lb, lc, h1, h2, h3⟩ := H.out
  exact ⟨⟨T, lv, lb, lc, e.get h1, h2, e.rd h3⟩, H.len, fun j vb hj => (H.lv j vb hj).ext e, H.rng, H.n, H.w1, H.w22⟩
end Go.X
