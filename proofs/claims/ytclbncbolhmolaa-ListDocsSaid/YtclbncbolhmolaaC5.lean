/- Small functions: printed walks. -/
import Derived.Test.YtclbncbolhmolaaC4
namespace Go.X
open Go Go.Proofs
set_option linter.unusedVariables false
set_option linter.unusedSimpArgs false
attribute [local irreducible] rowP HP.obj HP.old

/-- how many bits a number has -/
def bl (x : Nat) : Nat := if x = 0 then 0 else x.log2 + 1
theorem bl_shift (x k : Nat) (h : 2 ^ k ≤ x) : bl x = bl (x / 2 ^ k) + k := by
  have h0 := Nat.two_pow_pos k
  have h1 : x / 2 ^ k ≠ 0 := by have := Nat.div_pos h h0; omega
  have h2 : x ≠ 0 := by omega
  unfold bl
  rw [if_neg h1, if_neg h2]
  have hk : k ≤ x.log2 := (Nat.le_log2 h2).2 h
  obtain ⟨d, hd⟩ := Nat.le.dest hk
  have hx := (Nat.log2_eq_iff h2).1 hd.symm
  have this : (x / 2 ^ k).log2 = d := by
    rw [Nat.log2_eq_iff h1, Nat.le_div_iff_mul_le h0, Nat.div_lt_iff_lt_mul h0, ← Nat.pow_add, ← Nat.pow_add]
    rw [show d + k = k + d by omega, show d + 1 + k = k + d + 1 by omega]
    exact hx
  omega
theorem bl_lt (x k : Nat) (h : x < 2 ^ k) : bl x ≤ k := by
  unfold bl
  split
  · omega
  · rename_i h0
    have := (Nat.log2_lt h0).2 h
    omega
theorem sh8 (n : Nat) : (n : Int) / 2 ^ Int.toNat 8 = ((n / 256 : Nat) : Int) := by
  have : (2 : Int) ^ Int.toNat 8 = 256 := by decide
  rw [this]; omega
theorem sh16 (n : Nat) : (n : Int) / 2 ^ Int.toNat 16 = ((n / 65536 : Nat) : Int) := by
  have : (2 : Int) ^ Int.toNat 16 = 65536 := by decide
  rw [this]; omega
theorem tabL (L : ByteArray) (h : (List.range 256).all (fun n => L[n]? == some (UInt8.ofNat (bl n))) = true) (n : Nat) (hn : n < 256) : L[n]? = some (UInt8.ofNat (bl n)) := by
  have := List.all_eq_true.1 h n (List.mem_range.2 hn)
  simpa using this
theorem u8bl {y : Int} {n : Nat} (hy : y = n) (h : bl n ≤ 64) : ((UInt8.ofNat (bl y.toNat)).toNat : Int) = (bl n : Int) := by
  subst hy
  rw [Int.toNat_natCast]
  simp
  omega

theorem c_IndexFunc {h : Heap} {v : Value} {b p c : Nat} {xs : List Int} {fid : Nat} {cap : List Value} {q : Int → Bool} (hv : SlV v b p xs.length c) (hr : Rd eI 1 h b p xs) (hl : xs.length ≤ 4194304) (hgo : isGo Try.prog fid = true) (hc : ∀ x ∈ xs, FnT Try.prog fid (.int .i64 x :: cap) h (fun v h' => v = .bool (q x) ∧ h = h')) :
    FnT Try.prog 80 [v, .func (.func fid) #[] cap.toArray] h (fun v h' => v = .int .i64 (match xs.findIdx? q with | some i => (i : Int) | none => -1) ∧ h = h') := by
  refine fn_enter Try.func80 rfl Try.ntmps80 rfl ?_
  refine cd_seq ?_
  refine cd_region ?_
  refine ol_y rfl rfl (y_assign rfl rfl) ?_
  refine ol_nil ?_
  refine thenX_n ?_
  refine cd_seq ?_
  refine cd_seq ?_
  refine cd_region ?_
  refine ol_y rfl rfl (y_move rfl rfl) ?_
  refine ol_y rfl rfl (y_lenV rfl Try.underlying22 rfl (by first | assumption | exact SlV.mk' _ _ _ _)) ?_
  refine ol_y rfl rfl (y_move rfl rfl) ?_
  refine ol_nil ?_
  refine thenX_n ?_
  refine cd_block ?_
  refine cd_loop (γ := Nat) (fun k => [(0, v), (1, .func (.func fid) #[] cap.toArray), (7, .int .i64 xs.length), (8, .int .i64 k)]) (fun k h' => h = h' ∧ k ≤ xs.length ∧ ∀ j, j < k → ∀ x, xs[j]? = some x → q x = false) (fun k => xs.length - k) (0) ?_ ?_ ?_
  · (repeat (first | exact trivial | refine ⟨rfl, ?_⟩))
  · exact ⟨rfl, by omega, fun j hj => by omega⟩
  · skip
    rintro k ρ h1 ⟨rfl, hk, hn⟩
    (try dsimp only)
    refine cd_seq ?_
    refine cd_region ?_
    refine ol_y rfl rfl (y_lss rfl rfl rfl) ?_
    refine ol_nil ?_
    refine thenX_n ?_
    refine cd_seq ?_
    refine cd_cond _ rfl (fun hc0 => ?_) (fun hc0 => ?_)
    · (try replace hc0 := of_decide_eq_true hc0)
      refine cd_skip ?_
      refine thenX_n ?_
      refine cd_seq ?_
      refine cd_block ?_
      refine cd_seq ?_
      refine cd_region ?_
      refine ol_y rfl rfl (y_move rfl rfl) ?_
      refine ol_y rfl rfl (y_assign rfl rfl) ?_
      refine ol_nil ?_
      refine thenX_n ?_
      refine cd_seq ?_
      refine cd_region ?_
      refine ol_y rfl rfl (y_move rfl rfl) ?_
      refine ol_y rfl rfl (y_move rfl rfl) ?_
      refine ol_y rfl rfl (y_move rfl rfl) ?_
      refine ol_y rfl rfl (y_indexV rfl Try.underlying22 sz3 rfl (by first | assumption | exact SlV.mk' _ _ _ _) rfl (by omega) (by omega)) ?_
      refine ol_y rfl rfl (y_load rfl rfl (fun _ e => ldeq e (ld_row scl3 (by assumption) (by omega) (by omega)))) ?_
      refine ol_x rfl rfl (x_callv (cap := cap) rfl hgo rfl rfl (hc (gt xs (k : Int)) (List.mem_of_getElem? (gt_get (by omega) (by omega))))) ?_
      rintro _ _ ⟨rfl, rfl⟩
      refine ol_nil ?_
      refine thenX_n ?_
      refine cd_cond _ rfl (fun hc1 => ?_) (fun hc1 => ?_)
      · (try replace hc1 := of_decide_eq_true hc1)
        refine cd_seq ?_
        refine cd_region ?_
        refine ol_y rfl rfl (y_move rfl rfl) ?_
        refine ol_y rfl rfl (y_assign rfl rfl) ?_
        refine ol_nil ?_
        refine thenX_n ?_
        refine cd_ret ?_
        refine blockX_r ?_
        refine thenX_r ?_
        refine thenX_r ?_
        refine blockX_r ?_
        refine thenX_r ?_
        refine ret1 Try.results80 rfl ?_
        refine ⟨vint ?_, rfl⟩
        have hf : xs.findIdx? q = some k := by
          rw [List.findIdx?_eq_some_iff_getElem]
          have hlt : k < xs.length := by omega
          have hg := gt_get (xs := xs) (i := (k : Int)) (by omega) (by omega)
          rw [Int.toNat_natCast, List.getElem?_eq_getElem hlt] at hg
          refine ⟨hlt, by rw [Option.some.inj hg]; exact hc1, fun j hj => ?_⟩
          have := hn j hj _ (List.getElem?_eq_getElem (by omega))
          simp [this]
        rw [hf]
      · (try replace hc1 := of_decide_eq_false hc1)
        refine cd_skip ?_
        refine blockX_n ?_
        refine thenX_n ?_
        refine cd_region ?_
        refine ol_y rfl rfl (y_addi rfl rfl rfl (in64 (by omega) (by omega))) ?_
        refine ol_y rfl rfl (y_move rfl rfl) ?_
        refine ol_nil ?_
        refine thenX_n ?_
        refine ⟨k + 1, ⟨rfl, rfl, rfl, vint (by simp), trivial⟩, ⟨rfl, by omega, fun j hj x hx => ?_⟩, by omega⟩
        rcases Nat.lt_or_ge j k with hlt | hge
        · exact hn j hlt x hx
        · obtain rfl : j = k := by omega
          have := gt_get (xs := xs) (i := (j : Int)) (by omega) (by omega)
          rw [Int.toNat_natCast, hx] at this
          rw [Option.some.inj this]; exact hc1
    · (try replace hc0 := of_decide_eq_false hc0)
      refine cd_exit ?_
      refine thenX_e ?_
      refine thenX_e ?_
      refine blockX_hit ?_
      refine thenX_n ?_
      refine cd_seq ?_
      refine cd_region ?_
      refine ol_y rfl rfl (y_assign rfl rfl) ?_
      refine ol_nil ?_
      refine thenX_n ?_
      refine cd_ret ?_
      refine ret1 Try.results80 rfl ?_
      refine ⟨vint ?_, rfl⟩
      have hf : xs.findIdx? q = none := by
        rw [List.findIdx?_eq_none_iff]
        intro x hx
        obtain ⟨j, hj⟩ := List.mem_iff_getElem?.1 hx
        have hjl := (List.getElem?_eq_some_iff.1 hj).1
        exact hn j (by omega) x hj
      rw [hf]


theorem c_ContainsFunc {h : Heap} {v : Value} {b p c : Nat} {xs : List Int} {fid : Nat} {cap : List Value} {q : Int → Bool} (hv : SlV v b p xs.length c) (hr : Rd eI 1 h b p xs) (hl : xs.length ≤ 4194304) (hgo : isGo Try.prog fid = true) (hc : ∀ x ∈ xs, FnT Try.prog fid (.int .i64 x :: cap) h (fun v h' => v = .bool (q x) ∧ h = h')) :
    FnT Try.prog 46 [v, .func (.func fid) #[] cap.toArray] h (fun v h' => v = .bool (xs.any q) ∧ h = h') := by
  refine fn_enter Try.func46 rfl Try.ntmps46 rfl ?_
  refine cd_seq ?_
  refine cd_region ?_
  refine ol_y rfl rfl (y_assign rfl rfl) ?_
  refine ol_nil ?_
  refine thenX_n ?_
  refine cd_seq ?_
  refine cd_region ?_
  refine ol_y rfl rfl (y_move rfl rfl) ?_
  refine ol_y rfl rfl (y_move rfl rfl) ?_
  refine ol_x rfl rfl (x_call rfl go80 rfl (c_IndexFunc hv hr hl hgo hc)) ?_
  rintro _ _ ⟨rfl, rfl⟩
  refine ol_y rfl rfl (y_geq rfl rfl rfl) ?_
  refine ol_y rfl rfl (y_assign rfl rfl) ?_
  refine ol_nil ?_
  refine thenX_n ?_
  refine cd_ret ?_
  refine ret1 Try.results46 rfl ?_
  refine ⟨vbool ?_, rfl⟩
  cases hf : xs.findIdx? q with
  | none =>
    rw [List.findIdx?_eq_none_iff] at hf
    have : xs.any q = false := by rw [List.any_eq_false]; intro x hx; rw [hf x hx]; simp
    rw [this]; simp
  | some i =>
    obtain ⟨hi, hq, _⟩ := List.findIdx?_eq_some_iff_getElem.1 hf
    have : xs.any q = true := List.any_eq_true.2 ⟨_, List.getElem_mem hi, hq⟩
    rw [this]; simp


theorem c_waveNewLit {h : Heap} {tb : Nat} {T : TypeId} {m x : Int} (hb : h[tb]? = some (.cells [.int .i64 m].toArray T (0, 0))) :
    FnT Try.prog 47 [.int .i64 x, .pointer (some ⟨tb, 0, none⟩)] h (fun v h' => v = .bool (decide (x < 0 ∨ m < x)) ∧ h = h') := by
  refine fn_enter Try.func47 rfl Try.ntmps47 rfl ?_
  refine cd_seq ?_
  refine cd_region ?_
  refine ol_y rfl rfl (y_assign rfl rfl) ?_
  refine ol_nil ?_
  refine thenX_n ?_
  refine cd_seq ?_
  refine cd_region ?_
  refine ol_y rfl rfl (y_move rfl rfl) ?_
  refine ol_y rfl rfl (y_lss rfl rfl rfl) ?_
  refine ol_y rfl rfl (y_move rfl rfl) ?_
  refine ol_split (t := 6) rfl (fun hg1 => ?_) (fun hg1 => ?_)
  · (try have hg1_ := of_decide_eq_true hg1)
    refine ol_gn rfl rfl rfl rfl hg1 rfl ?_
    refine ol_gn rfl rfl rfl rfl hg1 rfl ?_
    refine ol_gn rfl rfl rfl rfl hg1 rfl ?_
    refine ol_y rfl rfl (y_pick_t rfl rfl hg1 rfl) ?_
    refine ol_y rfl rfl (y_assign rfl rfl) ?_
    refine ol_nil ?_
    refine thenX_n ?_
    refine cd_ret ?_
    refine ret1 Try.results47 rfl ?_
    refine ⟨vbool ?_, rfl⟩
    first
      | (have : x < 0 ∨ m < x := .inl hg1_
         simp [this])
      | (by_cases hm : m < x <;> simp [hm, hg1_])
  · (try have hg1_ := of_decide_eq_false hg1)
    refine ol_gy rfl rfl rfl rfl hg1 rfl (y_move rfl rfl) ?_
    refine ol_gy rfl rfl rfl rfl hg1 rfl (y_load rfl rfl (fun _ e => ldeq e (ld1 scl3 (cellH_blk (by assumption) rfl)))) ?_
    refine ol_gy rfl rfl rfl rfl hg1 rfl (y_gtr rfl rfl rfl) ?_
    refine ol_y rfl rfl (y_pick_f rfl rfl hg1 rfl) ?_
    refine ol_y rfl rfl (y_assign rfl rfl) ?_
    refine ol_nil ?_
    refine thenX_n ?_
    refine cd_ret ?_
    refine ret1 Try.results47 rfl ?_
    refine ⟨vbool ?_, rfl⟩
    first
      | (have : x < 0 ∨ m < x := .inl hg1_
         simp [this])
      | (by_cases hm : m < x <;> simp [hm, hg1_])


theorem c_Len64 {h : Heap} {x : Nat} (hx : x < 4194304) :
    FnT Try.prog 81 [.int .u64 x] h (fun v h' => v = .int .i64 (bl x) ∧ h = h') := by
  have s16 := bl_shift x 16
  have s8 := bl_shift x 8
  have s8b := bl_shift (x / 65536) 8
  simp only [Nat.reducePow] at s16 s8 s8b
  have b1 := bl_lt x 22 hx
  have l1 := bl_lt (x / 256) 64 (by omega)
  have l2 := bl_lt (x / 65536) 64 (by omega)
  have l3 := bl_lt (x / 65536 / 256) 64 (by omega)
  refine fn_enter Try.func81 rfl Try.ntmps81 rfl ?_
  refine cd_seq ?_
  refine cd_region ?_
  refine ol_y rfl rfl (y_assign rfl rfl) ?_
  refine ol_nil ?_
  refine thenX_n ?_
  refine cd_seq ?_
  refine cd_seq ?_
  refine cd_region ?_
  refine ol_y rfl rfl (y_move rfl rfl) ?_
  refine ol_y rfl rfl (y_geq rfl rfl rfl) ?_
  refine ol_nil ?_
  refine thenX_n ?_
  refine cd_cond _ rfl (fun hc0 => ?_) (fun hc0 => ?_)
  · (try replace hc0 := of_decide_eq_true hc0)
    exfalso; omega
  · (try replace hc0 := of_decide_eq_false hc0)
    refine cd_skip ?_
    refine thenX_n ?_
    refine cd_seq ?_
    refine cd_seq ?_
    refine cd_region ?_
    refine ol_y rfl rfl (y_move rfl rfl) ?_
    refine ol_y rfl rfl (y_geq rfl rfl rfl) ?_
    refine ol_nil ?_
    refine thenX_n ?_
    refine cd_cond _ rfl (fun hc1 => ?_) (fun hc1 => ?_)
    · (try replace hc1 := of_decide_eq_true hc1)
      refine cd_seq ?_
      refine cd_region ?_
      refine ol_y rfl rfl (y_move rfl rfl) ?_
      refine ol_y rfl rfl ((y_shri rfl rfl rfl (by omega) (by show (_ : Int) ≤ 64; omega)).eq (vint (sh16 _))) ?_
      refine ol_y rfl rfl (y_assign rfl rfl) ?_
      refine ol_nil ?_
      refine thenX_n ?_
      refine cd_region ?_
      refine ol_y rfl rfl (y_move rfl rfl) ?_
      refine ol_y rfl rfl (y_addi rfl rfl rfl (in64 (by omega) (by omega))) ?_
      refine ol_y rfl rfl (y_assign rfl rfl) ?_
      refine ol_nil ?_
      refine thenX_n ?_
      refine cd_seq ?_
      refine cd_seq ?_
      refine cd_region ?_
      refine ol_y rfl rfl (y_move rfl rfl) ?_
      refine ol_y rfl rfl (y_geq rfl rfl rfl) ?_
      refine ol_nil ?_
      refine thenX_n ?_
      refine cd_cond _ rfl (fun hc2 => ?_) (fun hc2 => ?_)
      · (try replace hc2 := of_decide_eq_true hc2)
        refine cd_seq ?_
        refine cd_region ?_
        refine ol_y rfl rfl (y_move rfl rfl) ?_
        refine ol_y rfl rfl ((y_shri rfl rfl rfl (by omega) (by show (_ : Int) ≤ 64; omega)).eq (vint (sh8 _))) ?_
        refine ol_y rfl rfl (y_assign rfl rfl) ?_
        refine ol_nil ?_
        refine thenX_n ?_
        refine cd_region ?_
        refine ol_y rfl rfl (y_move rfl rfl) ?_
        refine ol_y rfl rfl (y_addi rfl rfl rfl (in64 (by omega) (by omega))) ?_
        refine ol_y rfl rfl (y_assign rfl rfl) ?_
        refine ol_nil ?_
        refine thenX_n ?_
        refine cd_seq ?_
        refine cd_region ?_
        refine ol_y rfl rfl (y_move rfl rfl) ?_
        refine ol_y rfl rfl (y_move rfl rfl) ?_
        refine ol_y rfl rfl (y_convw rfl ⟨_, Try.underlying85⟩ Try.underlying5 rfl (inu8 (by omega) (by omega))) ?_
        refine ol_y rfl rfl ((y_indexS rfl Try.underlying9 rfl rfl (by omega) (tabL _ (by kernel_rfl) _ (by omega))).eq (vint (u8bl rfl (by omega)))) ?_
        refine ol_y rfl rfl (y_convw rfl ⟨_, Try.underlying5⟩ Try.underlying3 rfl (in64 (by omega) (by omega))) ?_
        refine ol_y rfl rfl (y_addi rfl rfl rfl (in64 (by omega) (by omega))) ?_
        refine ol_y rfl rfl (y_assign rfl rfl) ?_
        refine ol_nil ?_
        refine thenX_n ?_
        refine cd_ret ?_
        refine ret1 Try.results81 rfl ?_
        exact ⟨vint (by omega), rfl⟩
      · (try replace hc2 := of_decide_eq_false hc2)
        refine cd_skip ?_
        refine thenX_n ?_
        refine cd_seq ?_
        refine cd_region ?_
        refine ol_y rfl rfl (y_move rfl rfl) ?_
        refine ol_y rfl rfl (y_move rfl rfl) ?_
        refine ol_y rfl rfl (y_convw rfl ⟨_, Try.underlying85⟩ Try.underlying5 rfl (inu8 (by omega) (by omega))) ?_
        refine ol_y rfl rfl ((y_indexS rfl Try.underlying9 rfl rfl (by omega) (tabL _ (by kernel_rfl) _ (by omega))).eq (vint (u8bl rfl (by omega)))) ?_
        refine ol_y rfl rfl (y_convw rfl ⟨_, Try.underlying5⟩ Try.underlying3 rfl (in64 (by omega) (by omega))) ?_
        refine ol_y rfl rfl (y_addi rfl rfl rfl (in64 (by omega) (by omega))) ?_
        refine ol_y rfl rfl (y_assign rfl rfl) ?_
        refine ol_nil ?_
        refine thenX_n ?_
        refine cd_ret ?_
        refine ret1 Try.results81 rfl ?_
        exact ⟨vint (by omega), rfl⟩
    · (try replace hc1 := of_decide_eq_false hc1)
      refine cd_skip ?_
      refine thenX_n ?_
      refine cd_seq ?_
      refine cd_seq ?_
      refine cd_region ?_
      refine ol_y rfl rfl (y_move rfl rfl) ?_
      refine ol_y rfl rfl (y_geq rfl rfl rfl) ?_
      refine ol_nil ?_
      refine thenX_n ?_
      refine cd_cond _ rfl (fun hc2 => ?_) (fun hc2 => ?_)
      · (try replace hc2 := of_decide_eq_true hc2)
        refine cd_seq ?_
        refine cd_region ?_
        refine ol_y rfl rfl (y_move rfl rfl) ?_
        refine ol_y rfl rfl ((y_shri rfl rfl rfl (by omega) (by show (_ : Int) ≤ 64; omega)).eq (vint (sh8 _))) ?_
        refine ol_y rfl rfl (y_assign rfl rfl) ?_
        refine ol_nil ?_
        refine thenX_n ?_
        refine cd_region ?_
        refine ol_y rfl rfl (y_move rfl rfl) ?_
        refine ol_y rfl rfl (y_addi rfl rfl rfl (in64 (by omega) (by omega))) ?_
        refine ol_y rfl rfl (y_assign rfl rfl) ?_
        refine ol_nil ?_
        refine thenX_n ?_
        refine cd_seq ?_
        refine cd_region ?_
        refine ol_y rfl rfl (y_move rfl rfl) ?_
        refine ol_y rfl rfl (y_move rfl rfl) ?_
        refine ol_y rfl rfl (y_convw rfl ⟨_, Try.underlying85⟩ Try.underlying5 rfl (inu8 (by omega) (by omega))) ?_
        refine ol_y rfl rfl ((y_indexS rfl Try.underlying9 rfl rfl (by omega) (tabL _ (by kernel_rfl) _ (by omega))).eq (vint (u8bl rfl (by omega)))) ?_
        refine ol_y rfl rfl (y_convw rfl ⟨_, Try.underlying5⟩ Try.underlying3 rfl (in64 (by omega) (by omega))) ?_
        refine ol_y rfl rfl (y_addi rfl rfl rfl (in64 (by omega) (by omega))) ?_
        refine ol_y rfl rfl (y_assign rfl rfl) ?_
        refine ol_nil ?_
        refine thenX_n ?_
        refine cd_ret ?_
        refine ret1 Try.results81 rfl ?_
        exact ⟨vint (by omega), rfl⟩
      · (try replace hc2 := of_decide_eq_false hc2)
        refine cd_skip ?_
        refine thenX_n ?_
        refine cd_seq ?_
        refine cd_region ?_
        refine ol_y rfl rfl (y_move rfl rfl) ?_
        refine ol_y rfl rfl (y_move rfl rfl) ?_
        refine ol_y rfl rfl (y_convw rfl ⟨_, Try.underlying85⟩ Try.underlying5 rfl (inu8 (by omega) (by omega))) ?_
        refine ol_y rfl rfl ((y_indexS rfl Try.underlying9 rfl rfl (by omega) (tabL _ (by kernel_rfl) _ (by omega))).eq (vint (u8bl rfl (by omega)))) ?_
        refine ol_y rfl rfl (y_convw rfl ⟨_, Try.underlying5⟩ Try.underlying3 rfl (in64 (by omega) (by omega))) ?_
        refine ol_y rfl rfl (y_addi rfl rfl rfl (in64 (by omega) (by omega))) ?_
        refine ol_y rfl rfl (y_assign rfl rfl) ?_
        refine ol_nil ?_
        refine thenX_n ?_
        refine cd_ret ?_
        refine ret1 Try.results81 rfl ?_
        exact ⟨vint (by omega), rfl⟩


theorem c_Width {h : Heap} {x : Nat} (hx : x < 4194304) :
    FnT Try.prog 48 [.int .u64 x] h (fun v h' => v = .int .i64 (max 1 (bl x) : Nat) ∧ h = h') := by
  refine fn_enter Try.func48 rfl Try.ntmps48 rfl ?_
  refine cd_seq ?_
  refine cd_region ?_
  refine ol_y rfl rfl (y_assign rfl rfl) ?_
  refine ol_nil ?_
  refine thenX_n ?_
  refine cd_seq ?_
  refine cd_region ?_
  refine ol_y rfl rfl (y_move rfl rfl) ?_
  refine ol_x rfl rfl (x_call rfl go81 rfl (c_Len64 hx)) ?_
  rintro _ _ ⟨rfl, rfl⟩
  refine ol_y rfl rfl (y_max rfl rfl rfl) ?_
  refine ol_y rfl rfl (y_assign rfl rfl) ?_
  refine ol_nil ?_
  refine thenX_n ?_
  refine cd_ret ?_
  refine ret1 Try.results48 rfl ?_
  exact ⟨vint (by omega), rfl⟩


end Go.X
