/- Plain: how many ones a word has; lists of bits in words. -/
import Derived.Test.YtclbncbolhmolaaX6
namespace Go.X
open Go

/-- how many j below n have f j -/
def cntF (f : Nat → Bool) : Nat → Nat
  | 0 => 0
  | n + 1 => cntF f n + (if f n then 1 else 0)
theorem cntF_add (f : Nat → Bool) (m : Nat) : ∀ k, cntF f (m + k) = cntF f m + cntF (fun j => f (m + j)) k
  | 0 => rfl
  | k + 1 => by rw [← Nat.add_assoc]; simp only [cntF, cntF_add f m k]; omega
theorem cntF_congr {f g : Nat → Bool} : ∀ n, (∀ j, j < n → f j = g j) → cntF f n = cntF g n
  | 0, _ => rfl
  | n + 1, h => by simp only [cntF]; rw [cntF_congr n fun j hj => h j (by omega), h n (by omega)]
theorem cntF_le (f : Nat → Bool) : ∀ n, cntF f n ≤ n
  | 0 => Nat.le_refl _
  | n + 1 => by have := cntF_le f n; simp only [cntF]; split <;> omega
theorem cntF_false : ∀ n, cntF (fun _ => false) n = 0
  | 0 => rfl
  | n + 1 => by simp [cntF, cntF_false n]
theorem cntF_mono (f : Nat → Bool) {m n : Nat} (h : m ≤ n) : cntF f m ≤ cntF f n := by
  obtain ⟨k, rfl⟩ := Nat.le.dest h
  rw [cntF_add]; omega
theorem cntF_tail (f : Nat → Bool) {m n : Nat} (h : m ≤ n) (hf : ∀ j, m ≤ j → f j = false) : cntF f n = cntF f m := by
  obtain ⟨k, rfl⟩ := Nat.le.dest h
  rw [cntF_add, cntF_congr k (g := fun _ => false) fun j _ => hf _ (by omega), cntF_false]; rfl

def popN (x : Nat) : Nat := cntF x.testBit 64
theorem popN_le (x : Nat) : popN x ≤ 64 := cntF_le _ 64

/-! ### the count in parallel -/
def mA : Nat → Nat | 0 => 0 | n + 1 => 4 * mA n + 1
def mB : Nat → Nat | 0 => 0 | n + 1 => 16 * mB n + 3
def mC : Nat → Nat | 0 => 0 | n + 1 => 256 * mC n + 15
def sA : Nat → Nat → Nat | 0, _ => 0 | n + 1, x => 4 * sA n (x / 4) + (x % 2 + x / 2 % 2)
def sB : Nat → Nat → Nat | 0, _ => 0 | n + 1, x => 16 * sB n (x / 16) + (x % 4 + x / 4 % 4)
def sC : Nat → Nat → Nat | 0, _ => 0 | n + 1, x => 256 * sC n (x / 256) + (x % 16 + x / 16 % 16)

theorem and_digit (k y m s : Nat) (hs : s < 2 ^ k) : y &&& (2 ^ k * m + s) = 2 ^ k * (y / 2 ^ k &&& m) + (y % 2 ^ k &&& s) := by
  have h1 : (y &&& (2 ^ k * m + s)) / 2 ^ k = y / 2 ^ k &&& m := by
    rw [Nat.and_div_two_pow]; congr 1
    rw [Nat.mul_add_div (Nat.two_pow_pos k), Nat.div_eq_of_lt hs]; rfl
  have h2 : (y &&& (2 ^ k * m + s)) % 2 ^ k = y % 2 ^ k &&& s := by
    rw [Nat.and_mod_two_pow]; congr 1
    rw [Nat.mul_add_mod, Nat.mod_eq_of_lt hs]
  rw [← h1, ← h2]; exact (Nat.div_add_mod _ _).symm

theorem stepA : ∀ n x, (x / 2 &&& mA n) + (x &&& mA n) = sA n x
  | 0, x => by simp [mA, sA]
  | n + 1, x => by
    have h1 := and_digit 2 (x / 2) (mA n) 1 (by decide)
    have h2 := and_digit 2 x (mA n) 1 (by decide)
    have ih := stepA n (x / 4)
    simp only [mA, sA]
    simp only [show (2 : Nat) ^ 2 = 4 from rfl] at h1 h2
    rw [h1, h2, ← ih]
    have e1 : x / 2 % 4 &&& 1 = x / 2 % 2 := by rw [Nat.and_one_is_mod]; omega
    have e2 : x % 4 &&& 1 = x % 2 := by rw [Nat.and_one_is_mod]; omega
    have e3 : x / 2 / 4 = x / 4 / 2 := by omega
    rw [e1, e2, e3]; omega
theorem stepB : ∀ n x, (x / 4 &&& mB n) + (x &&& mB n) = sB n x
  | 0, x => by simp [mB, sB]
  | n + 1, x => by
    have h1 := and_digit 4 (x / 4) (mB n) 3 (by decide)
    have h2 := and_digit 4 x (mB n) 3 (by decide)
    have ih := stepB n (x / 16)
    simp only [mB, sB]
    simp only [show (2 : Nat) ^ 4 = 16 from rfl] at h1 h2
    rw [h1, h2, ← ih]
    have e1 : x / 4 % 16 &&& 3 = x / 4 % 4 := by rw [show (3 : Nat) = 2 ^ 2 - 1 from rfl, Nat.and_two_pow_sub_one_eq_mod]; omega
    have e2 : x % 16 &&& 3 = x % 4 := by rw [show (3 : Nat) = 2 ^ 2 - 1 from rfl, Nat.and_two_pow_sub_one_eq_mod]; omega
    have e3 : x / 4 / 16 = x / 16 / 4 := by omega
    rw [e1, e2, e3]; omega
/-- each digit to the base 16 is at most 4 -/
def dig4 : Nat → Nat → Prop | 0, _ => True | n + 1, x => x % 16 ≤ 4 ∧ dig4 n (x / 16)
theorem dig4_sB : ∀ n x, (∀ i, x / 4 ^ i % 4 ≤ 2) → dig4 n (sB n x)
  | 0, _, _ => trivial
  | n + 1, x, h => by
    have h0 := h 0
    have h1 := h 1
    simp at h0 h1
    refine ⟨by simp only [sB]; omega, ?_⟩
    have e : sB (n + 1) x / 16 = sB n (x / 16) := by simp only [sB]; omega
    rw [e]
    refine dig4_sB n (x / 16) fun i => ?_
    have := h (i + 2)
    rwa [Nat.pow_add, Nat.mul_comm, ← Nat.div_div_eq_div_mul] at this
theorem sA_dig : ∀ n x i, sA n x / 4 ^ i % 4 ≤ 2
  | 0, x, i => by simp [sA]
  | n + 1, x, 0 => by simp only [sA]; omega
  | n + 1, x, i + 1 => by
    have e : sA (n + 1) x / 4 ^ (i + 1) = sA n (x / 4) / 4 ^ i := by
      rw [Nat.pow_succ, Nat.mul_comm, ← Nat.div_div_eq_div_mul]
      congr 1
      simp only [sA]; omega
    rw [e]; exact sA_dig n (x / 4) i
theorem stepC : ∀ n x, dig4 (2 * n) x → ((x / 16 + x) &&& mC n) = sC n x
  | 0, x, _ => by simp [mC, sC]
  | n + 1, x, h => by
    obtain ⟨h1, h2, h3⟩ := h
    have hd := and_digit 8 (x / 16 + x) (mC n) 15 (by decide)
    simp only [show (2 : Nat) ^ 8 = 256 from rfl] at hd
    have e3 : x / 16 / 16 = x / 256 := by omega
    rw [e3] at h3
    have ih := stepC n (x / 256) h3
    simp only [mC, sC]
    rw [hd, ← ih]
    cases n with
    | zero =>
      simp only [mC, Nat.and_zero, Nat.mul_zero, Nat.zero_add]
      rw [show (15 : Nat) = 2 ^ 4 - 1 from rfl, Nat.and_two_pow_sub_one_eq_mod]; omega
    | succ n =>
      have h4 : x / 256 % 16 ≤ 4 := h3.1
      have e1 : (x / 16 + x) / 256 = x / 256 / 16 + x / 256 := by omega
      have e2 : (x / 16 + x) % 256 &&& 15 = x % 16 + x / 16 % 16 := by
        rw [show (15 : Nat) = 2 ^ 4 - 1 from rfl, Nat.and_two_pow_sub_one_eq_mod]; omega
      rw [e1, e2]

theorem cntF_split (x : Nat) : ∀ k n, cntF x.testBit (k + n) = cntF (x % 2 ^ k).testBit k + cntF (x / 2 ^ k).testBit n := by
  intro k n
  rw [cntF_add]
  congr 1
  · exact cntF_congr k fun j hj => by rw [Nat.testBit_mod_two_pow]; simp [hj]
  · exact cntF_congr n fun j _ => by rw [Nat.testBit_div_two_pow, Nat.add_comm]
/-- sums of digits -/
def sumD (b : Nat) : Nat → Nat → Nat | 0, _ => 0 | n + 1, x => sumD b n (x / b) + x % b
theorem sum_sA : ∀ n x, sumD 4 n (sA n x) = cntF x.testBit (2 * n)
  | 0, x => rfl
  | n + 1, x => by
    have e : 2 * (n + 1) = 2 + 2 * n := by omega
    rw [e, cntF_split x 2 (2 * n)]
    have e1 : sA (n + 1) x / 4 = sA n (x / 4) := by simp only [sA]; omega
    simp only [sumD, e1]
    rw [sum_sA n (x / 4)]
    have e2 : sA (n + 1) x % 4 = x % 2 + x / 2 % 2 := by simp only [sA]; omega
    rw [e2, show (2 : Nat) ^ 2 = 4 from rfl]
    have e3 : cntF (x % 4).testBit 2 = x % 2 + x / 2 % 2 := by
      have : x % 4 = 0 ∨ x % 4 = 1 ∨ x % 4 = 2 ∨ x % 4 = 3 := by omega
      rcases this with h | h | h | h <;> rw [h]
      · have : x % 2 = 0 ∧ x / 2 % 2 = 0 := by omega
        rw [this.1, this.2]; decide
      · have : x % 2 = 1 ∧ x / 2 % 2 = 0 := by omega
        rw [this.1, this.2]; decide
      · have : x % 2 = 0 ∧ x / 2 % 2 = 1 := by omega
        rw [this.1, this.2]; decide
      · have : x % 2 = 1 ∧ x / 2 % 2 = 1 := by omega
        rw [this.1, this.2]; decide
    rw [e3]; omega
theorem sum_sB : ∀ n x, (∀ i, x / 4 ^ i % 4 ≤ 2) → sumD 16 n (sB n x) = sumD 4 (2 * n) x
  | 0, x, _ => rfl
  | n + 1, x, h => by
    have h0 := h 0
    have h1 := h 1
    simp at h0 h1
    have e1 : sB (n + 1) x / 16 = sB n (x / 16) := by simp only [sB]; omega
    have e2 : sB (n + 1) x % 16 = x % 4 + x / 4 % 4 := by simp only [sB]; omega
    have e3 : 2 * (n + 1) = (2 * n + 1) + 1 := by omega
    rw [e3]
    simp only [sumD, e1, e2]
    have e4 : x / 4 / 4 = x / 16 := by omega
    rw [e4, sum_sB n (x / 16) fun i => by
      have := h (i + 2)
      rwa [Nat.pow_add, Nat.mul_comm, ← Nat.div_div_eq_div_mul] at this]
    omega
theorem sum_sC : ∀ n x, dig4 (2 * n) x → sumD 256 n (sC n x) = sumD 16 (2 * n) x
  | 0, x, _ => rfl
  | n + 1, x, h => by
    obtain ⟨h1, h2, h3⟩ := h
    have e4 : x / 16 / 16 = x / 256 := by omega
    rw [e4] at h3
    have e1 : sC (n + 1) x / 256 = sC n (x / 256) := by simp only [sC]; omega
    have e2 : sC (n + 1) x % 256 = x % 16 + x / 16 % 16 := by simp only [sC]; omega
    have e3 : 2 * (n + 1) = (2 * n + 1) + 1 := by omega
    rw [e3]
    simp only [sumD, e1, e2, e4]
    rw [sum_sC n (x / 256) h3]
    omega
/-- each byte is at most 8 -/
def byte8 : Nat → Nat → Prop | 0, x => x = 0 | n + 1, x => x % 256 ≤ 8 ∧ byte8 n (x / 256)
theorem byte8_sC : ∀ n x, dig4 (2 * n) x → byte8 n (sC n x)
  | 0, _, _ => rfl
  | n + 1, x, h => by
    obtain ⟨h1, h2, h3⟩ := h
    have e4 : x / 16 / 16 = x / 256 := by omega
    rw [e4] at h3
    have e1 : sC (n + 1) x / 256 = sC n (x / 256) := by simp only [sC]; omega
    have e2 : sC (n + 1) x % 256 = x % 16 + x / 16 % 16 := by simp only [sC]; omega
    exact ⟨by rw [e2]; omega, by rw [e1]; exact byte8_sC n (x / 256) h3⟩
theorem divK {k r q n : Nat} (hr : r < k) (hn : n = r + k * q) : n / k = q := by
  rw [hn, Nat.add_mul_div_left _ _ (by omega), Nat.div_eq_of_lt hr, Nat.zero_add]
section
variable (a0 a1 a2 a3 a4 a5 a6 a7 : Nat)
def f8x : Nat := a0 + 256 * a1 + 65536 * a2 + 16777216 * a3 + 4294967296 * a4 + 1099511627776 * a5 + 281474976710656 * a6 + 72057594037927936 * a7
theorem f8_1 (h0 : a0 ≤ 8) : f8x a0 a1 a2 a3 a4 a5 a6 a7 / 256 = f8x a1 a2 a3 a4 a5 a6 a7 0 := divK (r := a0) (by omega) (by unfold f8x; omega)
theorem f8_2 (h0 : a0 ≤ 16) (h1 : a1 ≤ 16) : f8x a0 a1 a2 a3 a4 a5 a6 a7 / 65536 = f8x a2 a3 a4 a5 a6 a7 0 0 := divK (r := a0 + 256 * a1) (by omega) (by unfold f8x; omega)
theorem f8_4 (h0 : a0 ≤ 32) (h1 : a1 ≤ 32) (h2 : a2 ≤ 32) (h3 : a3 ≤ 32) : f8x a0 a1 a2 a3 a4 a5 a6 a7 / 4294967296 = f8x a4 a5 a6 a7 0 0 0 0 := divK (r := a0 + 256 * a1 + 65536 * a2 + 16777216 * a3) (by omega) (by unfold f8x; omega)
theorem f8_add (b0 b1 b2 b3 b4 b5 b6 b7 : Nat) : f8x a0 a1 a2 a3 a4 a5 a6 a7 + f8x b0 b1 b2 b3 b4 b5 b6 b7 = f8x (a0 + b0) (a1 + b1) (a2 + b2) (a3 + b3) (a4 + b4) (a5 + b5) (a6 + b6) (a7 + b7) := by unfold f8x; omega
theorem f8_mod : f8x a0 a1 a2 a3 a4 a5 a6 a7 % 128 = a0 % 128 := by
  have : f8x a0 a1 a2 a3 a4 a5 a6 a7 = a0 + 128 * (2 * a1 + 512 * a2 + 131072 * a3 + 33554432 * a4 + 8589934592 * a5 + 2199023255552 * a6 + 562949953421312 * a7) := by unfold f8x; omega
  rw [this, Nat.add_mul_mod_self_left]
theorem f8_lt (h0 : a0 ≤ 64) (h1 : a1 ≤ 64) (h2 : a2 ≤ 64) (h3 : a3 ≤ 64) (h4 : a4 ≤ 64) (h5 : a5 ≤ 64) (h6 : a6 ≤ 64) (h7 : a7 ≤ 64) : f8x a0 a1 a2 a3 a4 a5 a6 a7 < 18446744073709551616 := by unfold f8x; omega
end
theorem fold8 (x : Nat) (h : byte8 8 x) : ∀ y z u, y = x + x / 256 → z = y + y / 65536 → u = z + z / 4294967296 → (u % 128 = sumD 256 8 x ∧ x < 18446744073709551616 ∧ y < 18446744073709551616 ∧ z < 18446744073709551616 ∧ u < 18446744073709551616) := by
  simp only [byte8] at h
  obtain ⟨h0, h1, h2, h3, h4, h5, h6, h7, h8⟩ := h
  have hs : sumD 256 8 x = x % 256 + x / 256 % 256 + x / 256 / 256 % 256 + x / 256 / 256 / 256 % 256 + x / 256 / 256 / 256 / 256 % 256 + x / 256 / 256 / 256 / 256 / 256 % 256 + x / 256 / 256 / 256 / 256 / 256 / 256 % 256 + x / 256 / 256 / 256 / 256 / 256 / 256 / 256 % 256 := by
    simp only [sumD]; ac_rfl
  have hx : x = f8x (x % 256) (x / 256 % 256) (x / 256 / 256 % 256) (x / 256 / 256 / 256 % 256) (x / 256 / 256 / 256 / 256 % 256) (x / 256 / 256 / 256 / 256 / 256 % 256) (x / 256 / 256 / 256 / 256 / 256 / 256 % 256) (x / 256 / 256 / 256 / 256 / 256 / 256 / 256 % 256) := by
    unfold f8x
    have d0 := Nat.div_add_mod x 256
    have d1 := Nat.div_add_mod (x / 256) 256
    have d2 := Nat.div_add_mod (x / 256 / 256) 256
    have d3 := Nat.div_add_mod (x / 256 / 256 / 256) 256
    have d4 := Nat.div_add_mod (x / 256 / 256 / 256 / 256) 256
    have d5 := Nat.div_add_mod (x / 256 / 256 / 256 / 256 / 256) 256
    have d6 := Nat.div_add_mod (x / 256 / 256 / 256 / 256 / 256 / 256) 256
    have d7 := Nat.div_add_mod (x / 256 / 256 / 256 / 256 / 256 / 256 / 256) 256
    rw [h8] at d7
    generalize x / 256 / 256 / 256 / 256 / 256 / 256 / 256 = q7 at *
    generalize x / 256 / 256 / 256 / 256 / 256 / 256 = q6 at *
    generalize x / 256 / 256 / 256 / 256 / 256 = q5 at *
    generalize x / 256 / 256 / 256 / 256 = q4 at *
    generalize x / 256 / 256 / 256 = q3 at *
    generalize x / 256 / 256 = q2 at *
    generalize x / 256 = q1 at *
    generalize x % 256 = r0 at *
    generalize q1 % 256 = r1 at *
    generalize q2 % 256 = r2 at *
    generalize q3 % 256 = r3 at *
    generalize q4 % 256 = r4 at *
    generalize q5 % 256 = r5 at *
    generalize q6 % 256 = r6 at *
    generalize q7 % 256 = r7 at *
    clear h0 h1 h2 h3 h4 h5 h6 h7 h8 hs
    omega
  intro y z u hy hz hu
  rw [hs]
  generalize x % 256 = a0 at *
  generalize x / 256 % 256 = a1 at *
  generalize x / 256 / 256 % 256 = a2 at *
  generalize x / 256 / 256 / 256 % 256 = a3 at *
  generalize x / 256 / 256 / 256 / 256 % 256 = a4 at *
  generalize x / 256 / 256 / 256 / 256 / 256 % 256 = a5 at *
  generalize x / 256 / 256 / 256 / 256 / 256 / 256 % 256 = a6 at *
  generalize x / 256 / 256 / 256 / 256 / 256 / 256 / 256 % 256 = a7 at *
  clear h8 hs
  rw [hx, f8_1 _ _ _ _ _ _ _ _ h0, f8_add] at hy
  rw [hy, f8_2 _ _ _ _ _ _ _ _ (by clear hx hy hz hu; omega) (by clear hx hy hz hu; omega), f8_add] at hz
  rw [hz, f8_4 _ _ _ _ _ _ _ _ (by clear hx hy hz hu; omega) (by clear hx hy hz hu; omega) (by clear hx hy hz hu; omega) (by clear hx hy hz hu; omega), f8_add] at hu
  refine ⟨?_, ?_, ?_, ?_, ?_⟩
  · rw [hu, f8_mod]; clear hx hy hz hu; omega
  · rw [hx]; clear hx hy hz hu; apply f8_lt <;> omega
  · rw [hy]; clear hx hy hz hu; apply f8_lt <;> omega
  · rw [hz]; clear hx hy hz hu; apply f8_lt <;> omega
  · rw [hu]; clear hx hy hz hu; apply f8_lt <;> omega

/-- what OnesCount64 works out -/
theorem ones64 (x : Nat) : ∃ a b c : Nat, (x / 2 &&& 6148914691236517205) + (x &&& 6148914691236517205) = a ∧ (a / 4 &&& 3689348814741910323) + (a &&& 3689348814741910323) = b ∧ ((b / 16 + b) &&& 1085102592571150095) = c ∧
    a < 18446744073709551616 ∧ b / 16 + b < 18446744073709551616 ∧ c + c / 256 < 18446744073709551616 ∧ (c + c / 256) + (c + c / 256) / 65536 < 18446744073709551616 ∧
    ((c + c / 256) + (c + c / 256) / 65536) + ((c + c / 256) + (c + c / 256) / 65536) / 4294967296 < 18446744073709551616 ∧
    (((c + c / 256) + (c + c / 256) / 65536) + ((c + c / 256) + (c + c / 256) / 65536) / 4294967296) % 128 = popN x := by
  have hA := stepA 32 x
  have hB := stepB 16 (sA 32 x)
  have hd : dig4 16 (sB 16 (sA 32 x)) := dig4_sB 16 _ (sA_dig 32 x)
  have hC := stepC 8 (sB 16 (sA 32 x)) hd
  have h8 := fold8 _ (byte8_sC 8 _ hd) _ _ _ rfl rfl rfl
  have hs := sum_sC 8 _ hd
  have hs2 := sum_sB 16 (sA 32 x) (sA_dig 32 x)
  have hs3 := sum_sA 32 x
  have m1 : mA 32 = 6148914691236517205 := by decide
  have m2 : mB 16 = 3689348814741910323 := by decide
  have m3 : mC 8 = 1085102592571150095 := by decide
  rw [m1] at hA
  rw [m2] at hB
  rw [m3] at hC
  refine ⟨_, _, _, hA, hB, hC, ?_, ?_, h8.2.2.1, h8.2.2.2.1, h8.2.2.2.2, ?_⟩
  · have a1 : x / 2 &&& 6148914691236517205 ≤ 6148914691236517205 := Nat.and_le_right
    have a2 : x &&& 6148914691236517205 ≤ 6148914691236517205 := Nat.and_le_right
    omega
  · have a1 : sA 32 x / 4 &&& 3689348814741910323 ≤ 3689348814741910323 := Nat.and_le_right
    have a2 : sA 32 x &&& 3689348814741910323 ≤ 3689348814741910323 := Nat.and_le_right
    omega
  · rw [h8.1, hs, hs2, hs3]; rfl

theorem bits_and_u64 {a b : Nat} (ha : a < 18446744073709551616) (hb : b < 18446744073709551616) : Go.bits .and .u64 (a : Int) (b : Int) = ((a &&& b : Nat) : Int) :=
  (bits_nat .u64 64 (by decide) (fun n h0 h1 => wrap_u64' h0 (by omega)) a b (by omega) (by omega)).1
theorem bits_and_i64 {a b : Nat} (ha : a < 9223372036854775808) (hb : b < 9223372036854775808) : Go.bits .and .i64 (a : Int) (b : Int) = ((a &&& b : Nat) : Int) :=
  (bits_nat .i64 63 (by decide) (fun n h0 h1 => wrap_i64 (by omega) (by omega)) a b (by omega) (by omega)).1
theorem bits_or_u64 {a b : Nat} (ha : a < 18446744073709551616) (hb : b < 18446744073709551616) : Go.bits .or .u64 (a : Int) (b : Int) = ((a ||| b : Nat) : Int) :=
  (bits_nat .u64 64 (by decide) (fun n h0 h1 => wrap_u64' h0 (by omega)) a b (by omega) (by omega)).2
end Go.X
