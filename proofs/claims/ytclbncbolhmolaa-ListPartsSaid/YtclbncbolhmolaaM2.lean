/- Plain: bits in words; what a list of bits (rank.Vec) and a packed list (pack.Ints) hold. -/
import Derived.Test.YtclbncbolhmolaaM1
namespace Go.X
open Go

theorem vint {k : IntKind} {a b : Int} (h : a = b) : Value.int k a = Value.int k b := by rw [h]
theorem vbool {a b : Bool} (h : a = b) : Value.bool a = Value.bool b := by rw [h]

/-- words ws hold the bits f, n of them -/
structure WordsOf (ws : List Int) (f : Nat → Bool) (n : Nat) : Prop where
  len : ws.length = (n + 63) / 64
  rng : ∀ w ∈ ws, 0 ≤ w ∧ w < 18446744073709551616
  bit : ∀ k w, ws[k]? = some w → ∀ j, j < 64 → w.toNat.testBit j = f (64 * k + j)
  out : ∀ i, n ≤ i → f i = false

section
variable {ws : List Int} {f : Nat → Bool} {n : Nat}
theorem WordsOf.gt_rng (H : WordsOf ws f n) {k : Int} (h0 : 0 ≤ k) (h1 : k < ws.length) : 0 ≤ gt ws k ∧ gt ws k < 18446744073709551616 :=
  H.rng _ (List.mem_iff_getElem?.2 ⟨k.toNat, gt_get h0 h1⟩)
theorem WordsOf.gt_bit (H : WordsOf ws f n) {k : Int} (h0 : 0 ≤ k) (h1 : k < ws.length) {j : Nat} (hj : j < 64) : (gt ws k).toNat.testBit j = f (64 * k.toNat + j) :=
  H.bit k.toNat _ (gt_get h0 h1) j hj
theorem WordsOf.pop (H : WordsOf ws f n) {k : Int} (h0 : 0 ≤ k) (h1 : k < ws.length) : cntF f (64 * k.toNat) + popN (gt ws k).toNat = cntF f (64 * (k.toNat + 1)) := by
  rw [Nat.mul_add, cntF_add]
  congr 1
  exact cntF_congr 64 fun j hj => H.gt_bit h0 h1 hj
theorem WordsOf.popMask (H : WordsOf ws f n) {k : Int} (h0 : 0 ≤ k) (h1 : k < ws.length) {r : Nat} (hr : r ≤ 64) : cntF f (64 * k.toNat) + popN ((gt ws k).toNat &&& (2 ^ r - 1)) = cntF f (64 * k.toNat + r) := by
  rw [cntF_add]
  congr 1
  rw [Nat.and_two_pow_sub_one_eq_mod]
  unfold popN
  rw [cntF_tail (m := r) _ hr fun j hj => by rw [Nat.testBit_mod_two_pow]; simp [Nat.not_lt.2 hj]]
  exact cntF_congr r fun j hj => by rw [Nat.testBit_mod_two_pow]; simp [hj]; exact H.gt_bit h0 h1 (by omega)
end

theorem mask64 {w : Int} (h0 : 0 ≤ w) (h1 : w < 18446744073709551616) {r : Int} (hr0 : 0 ≤ r) (hr : r < 64) :
    Go.bits .and .u64 w (IntKind.u64.wrap (IntKind.u64.wrap (1 * 2 ^ min r.toNat IntKind.u64.bits) - 1)) = ((w.toNat &&& (2 ^ r.toNat - 1) : Nat) : Int) := by
  obtain ⟨a, rfl⟩ := Int.eq_ofNat_of_zero_le h0
  obtain ⟨s, rfl⟩ := Int.eq_ofNat_of_zero_le hr0
  have hs : s < 64 := by omega
  have hp : 2 ^ s ≤ 2 ^ 63 := Nat.pow_le_pow_right (by decide) (by omega)
  have hp0 := Nat.two_pow_pos s
  have e1 : min (s : Int).toNat IntKind.u64.bits = s := by simp only [Int.toNat_natCast, IntKind.bits]; omega
  have e2 : (1 : Int) * 2 ^ s = ((2 ^ s : Nat) : Int) := by simp
  rw [e1, e2, wrap_u64' (n := ((2 ^ s : Nat) : Int)) (by omega) (by omega), wrap_u64' (by omega) (by omega), show ((2 ^ s : Nat) : Int) - 1 = ((2 ^ s - 1 : Nat) : Int) by omega, bits_and_u64 (by omega) (by omega)]
  simp only [Int.toNat_natCast]
/-- a list of bits -/
structure VecF (h : Heap) (b : Nat) (f : Nat → Bool) (n : Nat) : Prop where
  out : ∃ (T : TypeId) (wv av : Value) (wb wc ab ac : Nat) (ws aa : List Int), h[b]? = some (.cells [.int .i64 n, wv, av, .int .i64 (cntF f n)].toArray T (0, 0)) ∧ SlV wv wb 0 ws.length wc ∧ Rd eU 1 h wb 0 ws ∧
    SlV av ab 0 aa.length ac ∧ Rd eI 1 h ab 0 aa ∧ WordsOf ws f n ∧ aa.length = (ws.length + 7) / 8 ∧ (∀ k : Int, 0 ≤ k → k < aa.length → gt aa k = cntF f (512 * k.toNat)) ∧ n ≤ 4194304
theorem VecF.ext {h h' : Heap} {b : Nat} {f : Nat → Bool} {n : Nat} (H : VecF h b f n) (e : Ext h h') : VecF h' b f n := by
  obtain ⟨T, wv, av, wb, wc, ab, ac, ws, as, h1, h2, h3, h4, h5, h6, h7, h8, h9⟩ := H.out
  exact ⟨T, wv, av, wb, wc, ab, ac, ws, as, e.get h1, h2, e.rd h3, h4, e.rd h5, h6, h7, h8, h9⟩

/-! ### packed lists -/
/-- a word's bits of a width -/
def maskI (w : Nat) : Int := ((2 ^ w - 1 : Nat) : Int)
theorem maskI_shr {w : Nat} (h1 : 1 ≤ w) (h2 : w ≤ 64) : (18446744073709551615 : Int) / 2 ^ (64 - (w : Int)).toNat = maskI w := by
  have e : (64 - (w : Int)).toNat = 64 - w := by omega
  rw [e]
  have hp : (2 : Nat) ^ 64 = 2 ^ (64 - w) * 2 ^ w := by rw [← Nat.pow_add]; congr 1; omega
  have h0 := Nat.two_pow_pos (64 - w)
  have h3 := Nat.two_pow_pos w
  have hN : (18446744073709551615 : Nat) / 2 ^ (64 - w) = 2 ^ w - 1 := by
    refine Nat.div_eq_of_lt_le ?_ ?_
    · have : (2 ^ w - 1) * 2 ^ (64 - w) = 2 ^ 64 - 2 ^ (64 - w) := by rw [Nat.sub_mul, hp, Nat.mul_comm]; omega
      rw [this]; omega
    · have : (2 ^ w - 1 + 1) * 2 ^ (64 - w) = 2 ^ 64 := by rw [Nat.sub_add_cancel h3, hp, Nat.mul_comm]
      rw [this]; decide
  unfold maskI
  rw [← hN]
  have : ((2 : Int) ^ (64 - w)) = ((2 ^ (64 - w) : Nat) : Int) := by simp
  rw [this]; exact (Int.natCast_ediv _ _).symm
theorem maskI_rng {w : Nat} (h2 : w ≤ 64) : 0 ≤ maskI w ∧ maskI w ≤ 18446744073709551615 := by
  have : 2 ^ w ≤ 2 ^ 64 := Nat.pow_le_pow_right (by decide) h2
  have h3 := Nat.two_pow_pos w
  unfold maskI; omega

/-- what Set writes -/
def setW (w : Nat) (ws : List Int) (i : Nat) (v : Int) : List Int :=
  let k : Int := (i : Int) * w / 64
  let s : Int := (i : Int) * w % 64
  let ws1 := ws.set k.toNat (Go.bits .or .u64 (Go.bits .andNot .u64 (gt ws k) (IntKind.u64.wrap (maskI w * 2 ^ min s.toNat IntKind.u64.bits))) (IntKind.u64.wrap (v * 2 ^ min s.toNat IntKind.u64.bits)))
  if s + w > 64 then ws1.set (k + 1).toNat (Go.bits .or .u64 (Go.bits .andNot .u64 (gt ws1 (k + 1)) (maskI w / 2 ^ (64 - s).toNat)) (v / 2 ^ (64 - s).toNat)) else ws1
theorem setW_length (w : Nat) (ws : List Int) (i : Nat) (v : Int) : (setW w ws i v).length = ws.length := by
  unfold setW
  dsimp only
  split <;> simp

def aheads (f : Nat → Bool) (m : Nat) : List Int := (List.range m).map fun q => ((cntF f (512 * q) : Nat) : Int)
theorem aheads_length (f : Nat → Bool) (m : Nat) : (aheads f m).length = m := by simp [aheads]
theorem aheads_gt (f : Nat → Bool) (m : Nat) (k : Int) (h0 : 0 ≤ k) (h1 : k < (aheads f m).length) : gt (aheads f m) k = ((cntF f (512 * k.toNat) : Nat) : Int) := by
  have := gt_get h0 h1
  rw [aheads_length] at h1
  have hk : k.toNat < m := by omega
  simp [aheads, hk] at this
  exact this.symm
theorem aheads_succ (f : Nat → Bool) (m : Nat) : aheads f (m + 1) = aheads f m ++ [((cntF f (512 * m) : Nat) : Int)] := by simp [aheads, List.range_succ]
end Go.X
