/- Plain: parts of a range of a wavelet matrix. -/
import Derived.Test.YtclbncbolhmolaaM3
import Derived.Test.YtclbncbolhmolaaM4
namespace Go.X
open Go

def sliceL {α : Type} (l : List α) (a b : Nat) : List α := (l.drop a).take (b - a)
theorem sliceL_len {α : Type} (l : List α) {a b : Nat} (h : b ≤ l.length) : (sliceL l a b).length = b - a := by
  unfold sliceL; rw [List.length_take, List.length_drop]; omega
theorem take_slice {α : Type} (l : List α) {a b : Nat} (h : a ≤ b) : l.take b = l.take a ++ sliceL l a b := by
  unfold sliceL
  have : b = a + (b - a) := by omega
  conv => lhs; rw [this, List.take_add]
theorem filt_slice {α : Type} (p : α → Bool) (l : List α) {a b : Nat} (h : a ≤ b) :
    sliceL (l.filter p) ((l.take a).filter p).length ((l.take b).filter p).length = (sliceL l a b).filter p := by
  have e1 : l.filter p = ((l.take a).filter p ++ (sliceL l a b).filter p) ++ (l.drop b).filter p := by
    rw [← List.filter_append, ← take_slice l h, ← List.filter_append, List.take_append_drop]
  have e2 : ((l.take b).filter p).length = ((l.take a).filter p).length + ((sliceL l a b).filter p).length := by rw [take_slice l h, List.filter_append, List.length_append]
  unfold sliceL at *
  rw [e1, e2, List.append_assoc, List.drop_left]
  rw [show ((l.take a).filter p).length + (((l.drop a).take (b - a)).filter p).length - ((l.take a).filter p).length = (((l.drop a).take (b - a)).filter p).length by omega, List.take_left]
theorem sliceL_append_l {α : Type} (x y : List α) {a b : Nat} (h : b ≤ x.length) : sliceL (x ++ y) a b = sliceL x a b := by
  unfold sliceL
  rcases Nat.lt_or_ge b a with hlt | hge
  · rw [show b - a = 0 by omega]; simp
  · rw [List.drop_append_of_le_length (by omega), List.take_append_of_le_length (by rw [List.length_drop]; omega)]
theorem sliceL_append_r {α : Type} (x y : List α) {a b : Nat} : sliceL (x ++ y) (x.length + a) (x.length + b) = sliceL y a b := by
  unfold sliceL
  rw [List.drop_append, show x.length + b - (x.length + a) = b - a by omega, List.drop_eq_nil_of_le (by omega), show x.length + a - x.length = a by omega]
  rfl

theorem cntF_row (k : Nat) (row : List Int) : ∀ i, cntF (rowBits k row) i = ((row.take i).filter (bitI k)).length
  | 0 => rfl
  | i + 1 => by
    simp only [cntF]
    rw [cntF_row k row i, List.take_add_one, List.filter_append, List.length_append]
    congr 1
    cases h : row[i]? with
    | none => simp [rowBits, h]
    | some c => cases hb : bitI k c <;> simp [rowBits, h, hb]
theorem take_filter_not (k : Nat) (row : List Int) {i : Nat} (h : i ≤ row.length) : ((row.take i).filter fun c => !bitI k c).length = i - cntF (rowBits k row) i := by
  have := filter_not_len (bitI k) (row.take i)
  rw [List.length_take] at this
  rw [cntF_row]; omega
theorem slice_zero (k : Nat) (row : List Int) {a b : Nat} (h : a ≤ b) (hb : b ≤ row.length) :
    sliceL (nextRow k row) (a - cntF (rowBits k row) a) (b - cntF (rowBits k row) b) = (sliceL row a b).filter fun c => !bitI k c := by
  rw [← take_filter_not k row (by omega), ← take_filter_not k row hb, ← filt_slice _ row h]
  unfold nextRow
  refine sliceL_append_l _ _ ?_
  exact (List.Sublist.filter _ (List.take_sublist b row)).length_le
theorem slice_one (k : Nat) (row : List Int) {a b : Nat} (h : a ≤ b) :
    sliceL (nextRow k row) (row.length - cntF (rowBits k row) row.length + cntF (rowBits k row) a) (row.length - cntF (rowBits k row) row.length + cntF (rowBits k row) b) = (sliceL row a b).filter fun c => bitI k c := by
  have e := take_filter_not k row (Nat.le_refl _)
  rw [List.take_length] at e
  rw [← e, cntF_row, cntF_row, ← filt_slice _ row h]
  unfold nextRow
  exact sliceL_append_r _ _

/-! ### parts -/
/-- does a number belong to a part? -/
def cov (W : Nat) (p : Prt) (x : Int) : Bool := decide (x / 2 ^ (W - p.lv.toNat) = p.c)
structure PartOk (W : Nat) (l A : List Int) (p : Prt) : Prop where
  lv0 : 0 ≤ p.lv
  lv1 : p.lv ≤ W
  a0 : 0 ≤ p.a
  ab : p.a ≤ p.b
  bn : p.b ≤ l.length
  c0 : 0 ≤ p.c
  c1 : p.c < 2 ^ p.lv.toNat
  ls : p.ls = p.c * 2 ^ (W - p.lv.toNat)
  sl : sliceL (lvRow W l p.lv.toNat) p.a.toNat p.b.toNat = A.filter (cov W p)
theorem PartOk.cnt {W : Nat} {l A : List Int} {p : Prt} (H : PartOk W l A p) : ((A.filter (cov W p)).length : Int) = p.b - p.a := by
  have := H.a0; have := H.ab; have := H.bn
  rw [← H.sl, sliceL_len _ (by rw [lvRow_length]; omega)]; omega
theorem cov_kids {W j : Nat} {c x : Int} (hj : j < W) : (x / 2 ^ (W - (j + 1)) = 2 * c ↔ x / 2 ^ (W - j) = c ∧ bitI (W - 1 - j) x = false) ∧ (x / 2 ^ (W - (j + 1)) = 2 * c + 1 ↔ x / 2 ^ (W - j) = c ∧ bitI (W - 1 - j) x = true) := by
  have e : W - j = (W - (j + 1)) + 1 := by omega
  have e2 : x / 2 ^ (W - j) = x / 2 ^ (W - (j + 1)) / 2 := by
    rw [e, Int.pow_succ, Int.ediv_ediv_of_nonneg (Int.pow_nonneg (by decide))]
  have e3 : W - 1 - j = W - (j + 1) := by omega
  unfold bitI
  rw [e2, e3]
  generalize x / 2 ^ (W - (j + 1)) = y
  simp only [decide_eq_false_iff_not, decide_eq_true_eq]
  constructor <;> constructor <;> intro h <;> (try constructor) <;> omega
def kid0 (n : Nat) (f : Nat → Bool) (p : Prt) : Prt := ⟨p.lv + 1, 2 * p.c, p.ls, max 0 (min p.a n) - cntF f p.a.toNat, max 0 (min p.b n) - cntF f p.b.toNat⟩
def kid1 (W n : Nat) (f : Nat → Bool) (p : Prt) : Prt := ⟨p.lv + 1, 2 * p.c + 1, p.ls + 2 ^ (W - p.lv.toNat - 1), (n - cntF f n) + cntF f p.a.toNat, (n - cntF f n) + cntF f p.b.toNat⟩
theorem cntF_mono2 (f : Nat → Bool) {a b : Nat} (h : a ≤ b) : cntF f a ≤ cntF f b ∧ cntF f b ≤ cntF f a + (b - a) := by
  induction b with
  | zero => obtain rfl : a = 0 := by omega
            simp
  | succ b ih =>
    rcases Nat.eq_or_lt_of_le h with rfl | hlt
    · simp
    · have := ih (by omega)
      simp only [cntF]
      split <;> omega
theorem PartOk.kid0 {W : Nat} {l A : List Int} {p : Prt} (H : PartOk W l A p) (hj : p.lv < W) : PartOk W l A (kid0 l.length (rowBits (W - 1 - p.lv.toNat) (lvRow W l p.lv.toNat)) p) := by
  obtain ⟨j, hlv⟩ := Int.eq_ofNat_of_zero_le H.lv0
  have ha := H.a0; have hb := H.ab; have hn := H.bn; have h0 := H.c0; have h1 := H.c1; have hs := H.ls; have hsl := H.sl
  have hlen := lvRow_length W l j
  unfold Go.X.kid0
  have hjW : j < W := by omega
  simp only [hlv, Int.toNat_natCast] at h1 hs hsl ⊢
  have m1 := cntF_mono2 (rowBits (W - 1 - j) (lvRow W l j)) (show p.a.toNat ≤ p.b.toNat by omega)
  have m0 := cntF_mono2 (rowBits (W - 1 - j) (lvRow W l j)) (Nat.zero_le p.a.toNat)
  have m2 := cntF_mono2 (rowBits (W - 1 - j) (lvRow W l j)) (show p.b.toNat ≤ l.length by omega)
  simp only [cntF] at m0
  have ejj : ((j : Int) + 1).toNat = j + 1 := by omega
  refine ⟨by (try dsimp only); omega, by (try dsimp only); omega, by (try dsimp only); omega, by (try dsimp only); omega, by (try dsimp only); omega, by (try dsimp only); omega, ?_, ?_, ?_⟩
  · dsimp only
    rw [ejj, Int.pow_succ]; omega
  · dsimp only
    rw [ejj, hs, show W - j = W - (j + 1) + 1 by omega, Int.pow_succ, Int.mul_comm 2 p.c, Int.mul_assoc, Int.mul_comm 2]
  · dsimp only
    rw [ejj]
    rw [show (max 0 (min p.a (l.length : Int)) - (cntF (rowBits (W - 1 - j) (lvRow W l j)) p.a.toNat : Int)).toNat = p.a.toNat - cntF (rowBits (W - 1 - j) (lvRow W l j)) p.a.toNat by omega,
      show (max 0 (min p.b (l.length : Int)) - (cntF (rowBits (W - 1 - j) (lvRow W l j)) p.b.toNat : Int)).toNat = p.b.toNat - cntF (rowBits (W - 1 - j) (lvRow W l j)) p.b.toNat by omega]
    simp only [lvRow]
    rw [slice_zero _ _ (by omega) (by omega), hsl, List.filter_filter]
    congr 1
    funext x
    have hk := (cov_kids (W := W) (j := j) (c := p.c) (x := x) (by omega)).1
    simp only [cov, hlv, Int.toNat_natCast, ejj]
    rw [Bool.eq_iff_iff]
    simp only [Bool.and_eq_true, Bool.not_eq_true', decide_eq_true_eq]
    rw [hk]; exact And.comm
theorem PartOk.kid1 {W : Nat} {l A : List Int} {p : Prt} (H : PartOk W l A p) (hj : p.lv < W) : PartOk W l A (kid1 W l.length (rowBits (W - 1 - p.lv.toNat) (lvRow W l p.lv.toNat)) p) := by
  obtain ⟨j, hlv⟩ := Int.eq_ofNat_of_zero_le H.lv0
  have ha := H.a0; have hb := H.ab; have hn := H.bn; have h0 := H.c0; have h1 := H.c1; have hs := H.ls; have hsl := H.sl
  have hlen := lvRow_length W l j
  unfold Go.X.kid1
  have hjW : j < W := by omega
  simp only [hlv, Int.toNat_natCast] at h1 hs hsl ⊢
  have m1 := cntF_mono2 (rowBits (W - 1 - j) (lvRow W l j)) (show p.a.toNat ≤ p.b.toNat by omega)
  have m0 := cntF_mono2 (rowBits (W - 1 - j) (lvRow W l j)) (Nat.zero_le p.a.toNat)
  have m2 := cntF_mono2 (rowBits (W - 1 - j) (lvRow W l j)) (show p.b.toNat ≤ l.length by omega)
  have m3 := cntF_mono2 (rowBits (W - 1 - j) (lvRow W l j)) (Nat.zero_le l.length)
  simp only [cntF] at m0 m3
  have ejj : ((j : Int) + 1).toNat = j + 1 := by omega
  refine ⟨by (try dsimp only); omega, by (try dsimp only); omega, by (try dsimp only); omega, by (try dsimp only); omega, by (try dsimp only); omega, by (try dsimp only); omega, ?_, ?_, ?_⟩
  · dsimp only
    rw [ejj, Int.pow_succ]; omega
  · dsimp only
    rw [ejj, hs, show W - j = W - (j + 1) + 1 by omega, show W - (j + 1) + 1 - 1 = W - (j + 1) by omega, Int.pow_succ, Int.add_mul, Int.mul_comm 2 p.c, Int.mul_assoc, Int.mul_comm 2, Int.one_mul]
  · dsimp only
    rw [ejj]
    rw [show ((l.length : Int) - (cntF (rowBits (W - 1 - j) (lvRow W l j)) l.length : Int) + (cntF (rowBits (W - 1 - j) (lvRow W l j)) p.a.toNat : Int)).toNat = (lvRow W l j).length - cntF (rowBits (W - 1 - j) (lvRow W l j)) (lvRow W l j).length + cntF (rowBits (W - 1 - j) (lvRow W l j)) p.a.toNat by rw [hlen]; omega,
      show ((l.length : Int) - (cntF (rowBits (W - 1 - j) (lvRow W l j)) l.length : Int) + (cntF (rowBits (W - 1 - j) (lvRow W l j)) p.b.toNat : Int)).toNat = (lvRow W l j).length - cntF (rowBits (W - 1 - j) (lvRow W l j)) (lvRow W l j).length + cntF (rowBits (W - 1 - j) (lvRow W l j)) p.b.toNat by rw [hlen]; omega]
    simp only [lvRow]
    rw [slice_one _ _ (by omega), hsl, List.filter_filter]
    congr 1
    funext x
    have hk := (cov_kids (W := W) (j := j) (c := p.c) (x := x) (by omega)).2
    simp only [cov, hlv, Int.toNat_natCast, ejj]
    rw [Bool.eq_iff_iff]
    simp only [Bool.and_eq_true, decide_eq_true_eq]
    rw [hk]; exact And.comm
theorem kid_cov {W n m : Nat} {f g : Nat → Bool} {p : Prt} (h0 : 0 ≤ p.lv) (hj : p.lv < W) (x : Int) : cov W p x = (cov W (kid0 n f p) x || cov W (kid1 W m g p) x) := by
  obtain ⟨j, hlv⟩ := Int.eq_ofNat_of_zero_le h0
  have hk := cov_kids (W := W) (j := j) (c := p.c) (x := x) (by omega)
  have ejj : ((j : Int) + 1).toNat = j + 1 := by omega
  simp only [cov, kid0, kid1, hlv, Int.toNat_natCast, ejj]
  rw [Bool.eq_iff_iff]
  simp only [Bool.or_eq_true, decide_eq_true_eq]
  rw [hk.1, hk.2]
  cases bitI (W - 1 - j) x <;> simp
theorem kid_apart {W n m : Nat} {f g : Nat → Bool} {p : Prt} {x : Int} (h1 : cov W (kid0 n f p) x = true) (h2 : cov W (kid1 W m g p) x = true) : False := by
  have h1 := of_decide_eq_true h1
  have h2 := of_decide_eq_true h2
  simp only [kid0, kid1] at h1 h2
  rw [h1] at h2; omega
end Go.X
