/- Contracts of rank's reading functions: printed walks. -/
import Derived.Test.YtclbncbolhmolaaXT
import Derived.Test.YtclbncbolhmolaaM2
namespace Go.X
open Go Go.Proofs
set_option linter.unusedVariables false
set_option linter.unusedSimpArgs false
attribute [local irreducible] rowP HP.obj HP.old

theorem c_OnesCount64 {h : Heap} {x : Int} (hx0 : 0 ≤ x) (hx : x < 18446744073709551616) :
    FnT Try.prog 87 [.int .u64 x] h (fun v h' => v = .int .i64 (popN x.toNat) ∧ h = h') := by
  obtain ⟨x, rfl⟩ := Int.eq_ofNat_of_zero_le hx0
  rw [Int.toNat_natCast]
  replace hx : x < 18446744073709551616 := by omega
  clear hx0
  obtain ⟨a, b, c, e1, e2, e3, l1, l2, l3, l4, l5, l6⟩ := ones64 x
  have hc : c ≤ 1085102592571150095 := by rw [← e3]; exact Nat.and_le_right
  have n1 : IntKind.u64.wrap (Go.bits .and .u64 ((x : Int) / 2 ^ min (Int.toNat 1) 64) 6148914691236517205 + Go.bits .and .u64 (x : Int) 6148914691236517205) = (a : Int) := by
    have q1 : ((x : Int) / 2 ^ min (Int.toNat 1) 64) = ((x / 2 : Nat) : Int) := by simp
    rw [q1, show (6148914691236517205 : Int) = ((6148914691236517205 : Nat) : Int) from rfl, bits_and_u64 (by omega) (by decide), bits_and_u64 hx (by decide), wrap_u64' (by omega) (by omega)]; omega
  have n2 : IntKind.u64.wrap (Go.bits .and .u64 ((a : Int) / 2 ^ min (Int.toNat 2) 64) 3689348814741910323 + Go.bits .and .u64 (a : Int) 3689348814741910323) = (b : Int) := by
    have q1 : ((a : Int) / 2 ^ min (Int.toNat 2) 64) = ((a / 4 : Nat) : Int) := by simp
    have hb : b < 18446744073709551616 := by omega
    rw [q1, show (3689348814741910323 : Int) = ((3689348814741910323 : Nat) : Int) from rfl, bits_and_u64 (by omega) (by decide), bits_and_u64 l1 (by decide), wrap_u64' (by omega) (by omega)]; omega
  have n3 : Go.bits .and .u64 (IntKind.u64.wrap ((b : Int) / 2 ^ min (Int.toNat 4) 64 + (b : Int))) 1085102592571150095 = (c : Int) := by
    have q1 : ((b : Int) / 2 ^ min (Int.toNat 4) 64) = ((b / 16 : Nat) : Int) := by simp
    rw [q1, wrap_u64' (by omega) (by omega), show ((b / 16 : Nat) : Int) + (b : Int) = ((b / 16 + b : Nat) : Int) by omega, show (1085102592571150095 : Int) = ((1085102592571150095 : Nat) : Int) from rfl, bits_and_u64 l2 (by decide)]; omega
  obtain ⟨y, hy⟩ : ∃ y, y = c + c / 256 := ⟨_, rfl⟩
  obtain ⟨z, hz⟩ : ∃ z, z = y + y / 65536 := ⟨_, rfl⟩
  obtain ⟨u, hu⟩ : ∃ u, u = z + z / 4294967296 := ⟨_, rfl⟩
  rw [← hy] at l3 l4 l5 l6
  rw [← hz] at l4 l5 l6
  rw [← hu] at l5 l6
  have n4 : IntKind.u64.wrap ((c : Int) + (c : Int) / 2 ^ min (Int.toNat 8) 64) = (y : Int) := by
    have q1 : ((c : Int) / 2 ^ min (Int.toNat 8) 64) = ((c / 256 : Nat) : Int) := by simp
    rw [q1, wrap_u64' (by omega) (by omega)]; omega
  have n5 : IntKind.u64.wrap ((y : Int) + (y : Int) / 2 ^ min (Int.toNat 16) 64) = (z : Int) := by
    have q1 : ((y : Int) / 2 ^ min (Int.toNat 16) 64) = ((y / 65536 : Nat) : Int) := by simp
    rw [q1, wrap_u64' (by omega) (by omega)]; omega
  have n6 : IntKind.u64.wrap ((z : Int) + (z : Int) / 2 ^ min (Int.toNat 32) 64) = (u : Int) := by
    have q1 : ((z : Int) / 2 ^ min (Int.toNat 32) 64) = ((z / 4294967296 : Nat) : Int) := by simp
    rw [q1, wrap_u64' (by omega) (by omega)]; omega
  have n7 : Go.bits .and .i64 (IntKind.i64.wrap (u : Int)) 127 = (popN x : Int) := by
    have hu9 : u < 9223372036854775808 := by clear n1 n2 n3 n4 n5 n6; omega
    rw [wrap_i64 (by omega) (by omega), show (127 : Int) = ((127 : Nat) : Int) from rfl, bits_and_i64 hu9 (by decide), show (127 : Nat) = 2 ^ 7 - 1 from rfl, Nat.and_two_pow_sub_one_eq_mod, ← l6]
  clear hc e1 e2 e3 l1 l2 l3 l4 l5 l6 hy hz hu
  refine fn_enter Try.func87 rfl Try.ntmps87 rfl ?_
  refine cd_seq ?_
  refine cd_region ?_
  refine ol_y rfl rfl (y_assign rfl rfl) ?_
  refine ol_nil ?_
  refine thenX_n ?_
  refine cd_seq ?_
  refine cd_region ?_
  refine ol_y rfl rfl (y_move rfl rfl) ?_
  refine ol_y rfl rfl (y_shr rfl rfl rfl (by decide)) ?_
  refine ol_y rfl rfl (y_bits rfl rfl rfl rfl) ?_
  refine ol_y rfl rfl (y_move rfl rfl) ?_
  refine ol_y rfl rfl (y_bits rfl rfl rfl rfl) ?_
  refine ol_y rfl rfl (y_add rfl rfl rfl) ?_
  refine ol_y rfl rfl (y_assign rfl (congrArg (Value.int .u64) n1)) ?_
  refine ol_nil ?_
  refine thenX_n ?_
  refine cd_seq ?_
  refine cd_region ?_
  refine ol_y rfl rfl (y_move rfl rfl) ?_
  refine ol_y rfl rfl (y_shr rfl rfl rfl (by decide)) ?_
  refine ol_y rfl rfl (y_bits rfl rfl rfl rfl) ?_
  refine ol_y rfl rfl (y_move rfl rfl) ?_
  refine ol_y rfl rfl (y_bits rfl rfl rfl rfl) ?_
  refine ol_y rfl rfl (y_add rfl rfl rfl) ?_
  refine ol_y rfl rfl (y_assign rfl (congrArg (Value.int .u64) n2)) ?_
  refine ol_nil ?_
  refine thenX_n ?_
  refine cd_seq ?_
  refine cd_region ?_
  refine ol_y rfl rfl (y_move rfl rfl) ?_
  refine ol_y rfl rfl (y_shr rfl rfl rfl (by decide)) ?_
  refine ol_y rfl rfl (y_move rfl rfl) ?_
  refine ol_y rfl rfl (y_add rfl rfl rfl) ?_
  refine ol_y rfl rfl (y_bits rfl rfl rfl rfl) ?_
  refine ol_y rfl rfl (y_assign rfl (congrArg (Value.int .u64) n3)) ?_
  refine ol_nil ?_
  refine thenX_n ?_
  refine cd_seq ?_
  refine cd_region ?_
  refine ol_y rfl rfl (y_move rfl rfl) ?_
  refine ol_y rfl rfl (y_move rfl rfl) ?_
  refine ol_y rfl rfl (y_shr rfl rfl rfl (by decide)) ?_
  refine ol_y rfl rfl (y_add rfl rfl rfl) ?_
  refine ol_y rfl rfl (y_assign rfl (congrArg (Value.int .u64) n4)) ?_
  refine ol_nil ?_
  refine thenX_n ?_
  refine cd_seq ?_
  refine cd_region ?_
  refine ol_y rfl rfl (y_move rfl rfl) ?_
  refine ol_y rfl rfl (y_move rfl rfl) ?_
  refine ol_y rfl rfl (y_shr rfl rfl rfl (by decide)) ?_
  refine ol_y rfl rfl (y_add rfl rfl rfl) ?_
  refine ol_y rfl rfl (y_assign rfl (congrArg (Value.int .u64) n5)) ?_
  refine ol_nil ?_
  refine thenX_n ?_
  refine cd_seq ?_
  refine cd_region ?_
  refine ol_y rfl rfl (y_move rfl rfl) ?_
  refine ol_y rfl rfl (y_move rfl rfl) ?_
  refine ol_y rfl rfl (y_shr rfl rfl rfl (by decide)) ?_
  refine ol_y rfl rfl (y_add rfl rfl rfl) ?_
  refine ol_y rfl rfl (y_assign rfl (congrArg (Value.int .u64) n6)) ?_
  refine ol_nil ?_
  refine thenX_n ?_
  refine cd_seq ?_
  refine cd_region ?_
  refine ol_y rfl rfl (y_move rfl rfl) ?_
  refine ol_y rfl rfl (y_convi rfl ⟨_, Try.underlying85⟩ Try.underlying3 rfl) ?_
  refine ol_y rfl rfl (y_bits rfl rfl rfl rfl) ?_
  refine ol_y rfl rfl (y_assign rfl (congrArg (Value.int .i64) n7)) ?_
  refine ol_nil ?_
  refine thenX_n ?_
  refine cd_ret ?_
  refine ret1 Try.results87 rfl ?_
  exact ⟨rfl, rfl⟩


theorem c_VecLen {h : Heap} {b : Nat} {f : Nat → Bool} {n : Nat} (hv : VecF h b f n) :
    FnT Try.prog 58 [.pointer (some ⟨b, 0, none⟩)] h (fun v h' => v = .int .i64 n ∧ h = h') := by
  obtain ⟨T, wv, av, wb, wc, ab, ac, ws, aa, hb, hwv, hws, hav, haa, hW, hal, hcnt, hn⟩ := hv.out
  have hwl := hW.len
  refine fn_enter Try.func58 rfl Try.ntmps58 rfl ?_
  refine cd_seq ?_
  refine cd_region ?_
  refine ol_y rfl rfl (y_assign rfl rfl) ?_
  refine ol_nil ?_
  refine thenX_n ?_
  refine cd_seq ?_
  refine cd_seq ?_
  refine cd_region ?_
  refine ol_y rfl rfl (y_move rfl rfl) ?_
  refine ol_y rfl rfl (y_nilP rfl Try.underlying93 rfl rfl) ?_
  refine ol_nil ?_
  refine thenX_n ?_
  refine cd_cond _ rfl (fun hc0 => ?_) (fun hc0 => ?_)
  · (try replace hc0 := of_decide_eq_true hc0)
    cases hc0
  · (try replace hc0 := of_decide_eq_false hc0)
    refine cd_skip ?_
    refine thenX_n ?_
    refine cd_seq ?_
    refine cd_region ?_
    refine ol_y rfl rfl (y_move rfl rfl) ?_
    refine ol_y rfl rfl (y_nilCheck rfl rfl) ?_
    refine ol_y rfl rfl (y_fieldAddr rfl fo132_0 rfl) ?_
    refine ol_y rfl rfl (y_load rfl rfl (fun _ e => ldeq e (ld1 scl3 (cellH_blk (by assumption) rfl)))) ?_
    refine ol_y rfl rfl (y_assign rfl rfl) ?_
    refine ol_nil ?_
    refine thenX_n ?_
    refine cd_ret ?_
    refine ret1 Try.results58 rfl ?_
    exact ⟨rfl, rfl⟩


theorem c_VecOnes {h : Heap} {b : Nat} {f : Nat → Bool} {n : Nat} (hv : VecF h b f n) :
    FnT Try.prog 59 [.pointer (some ⟨b, 0, none⟩)] h (fun v h' => v = .int .i64 (cntF f n) ∧ h = h') := by
  obtain ⟨T, wv, av, wb, wc, ab, ac, ws, aa, hb, hwv, hws, hav, haa, hW, hal, hcnt, hn⟩ := hv.out
  have hwl := hW.len
  refine fn_enter Try.func59 rfl Try.ntmps59 rfl ?_
  refine cd_seq ?_
  refine cd_region ?_
  refine ol_y rfl rfl (y_assign rfl rfl) ?_
  refine ol_nil ?_
  refine thenX_n ?_
  refine cd_seq ?_
  refine cd_seq ?_
  refine cd_region ?_
  refine ol_y rfl rfl (y_move rfl rfl) ?_
  refine ol_y rfl rfl (y_nilP rfl Try.underlying93 rfl rfl) ?_
  refine ol_nil ?_
  refine thenX_n ?_
  refine cd_cond _ rfl (fun hc0 => ?_) (fun hc0 => ?_)
  · (try replace hc0 := of_decide_eq_true hc0)
    cases hc0
  · (try replace hc0 := of_decide_eq_false hc0)
    refine cd_skip ?_
    refine thenX_n ?_
    refine cd_seq ?_
    refine cd_region ?_
    refine ol_y rfl rfl (y_move rfl rfl) ?_
    refine ol_y rfl rfl (y_nilCheck rfl rfl) ?_
    refine ol_y rfl rfl (y_fieldAddr rfl fo132_3 rfl) ?_
    refine ol_y rfl rfl (y_load rfl rfl (fun _ e => ldeq e (ld1 scl3 (cellH_blk (by assumption) rfl)))) ?_
    refine ol_y rfl rfl (y_assign rfl rfl) ?_
    refine ol_nil ?_
    refine thenX_n ?_
    refine cd_ret ?_
    refine ret1 Try.results59 rfl ?_
    exact ⟨rfl, rfl⟩


theorem c_VecRank {h : Heap} {b : Nat} {f : Nat → Bool} {n : Nat} {i : Int} (hv : VecF h b f n) :
    FnT Try.prog 61 [.pointer (some ⟨b, 0, none⟩), .int .i64 i] h (fun v h' => v = .int .i64 (cntF f i.toNat) ∧ h = h') := by
  obtain ⟨T, wv, av, wb, wc, ab, ac, ws, aa, hb, hwv, hws, hav, haa, hW, hal, hcnt, hn⟩ := hv.out
  have hwl := hW.len
  refine fn_enter Try.func61 rfl Try.ntmps61 rfl ?_
  refine cd_seq ?_
  refine cd_region ?_
  refine ol_y rfl rfl (y_assign rfl rfl) ?_
  refine ol_nil ?_
  refine thenX_n ?_
  refine cd_seq ?_
  refine cd_seq ?_
  refine cd_region ?_
  refine ol_y rfl rfl (y_move rfl rfl) ?_
  refine ol_y rfl rfl (y_nilP rfl Try.underlying93 rfl rfl) ?_
  refine ol_y rfl rfl (y_move rfl rfl) ?_
  refine ol_split (t := 10) rfl (fun hg1 => ?_) (fun hg1 => ?_)
  · (try have hg1_ := of_decide_eq_true hg1)
    cases hg1
  · (try have hg1_ := of_decide_eq_false hg1)
    refine ol_gy rfl rfl rfl rfl hg1 rfl (y_move rfl rfl) ?_
    refine ol_gy rfl rfl rfl rfl hg1 rfl (y_leq rfl rfl rfl) ?_
    refine ol_y rfl rfl (y_pick_f rfl rfl hg1 rfl) ?_
    refine ol_nil ?_
    refine thenX_n ?_
    refine cd_cond _ rfl (fun hc0 => ?_) (fun hc0 => ?_)
    · (try replace hc0 := of_decide_eq_true hc0)
      refine cd_seq ?_
      refine cd_region ?_
      refine ol_y rfl rfl (y_assign rfl rfl) ?_
      refine ol_nil ?_
      refine thenX_n ?_
      refine cd_ret ?_
      refine thenX_r ?_
      refine ret1 Try.results61 rfl ?_
      exact ⟨vint (by rw [show i.toNat = 0 by omega]; rfl), rfl⟩
    · (try replace hc0 := of_decide_eq_false hc0)
      refine cd_skip ?_
      refine thenX_n ?_
      refine cd_seq ?_
      refine cd_seq ?_
      refine cd_region ?_
      refine ol_y rfl rfl (y_move rfl rfl) ?_
      refine ol_y rfl rfl (y_move rfl rfl) ?_
      refine ol_y rfl rfl (y_nilCheck rfl rfl) ?_
      refine ol_y rfl rfl (y_fieldAddr rfl fo132_0 rfl) ?_
      refine ol_y rfl rfl (y_load rfl rfl (fun _ e => ldeq e (ld1 scl3 (cellH_blk (by assumption) rfl)))) ?_
      refine ol_y rfl rfl (y_geq rfl rfl rfl) ?_
      refine ol_nil ?_
      refine thenX_n ?_
      refine cd_cond _ rfl (fun hc1 => ?_) (fun hc1 => ?_)
      · (try replace hc1 := of_decide_eq_true hc1)
        refine cd_seq ?_
        refine cd_region ?_
        refine ol_y rfl rfl (y_move rfl rfl) ?_
        refine ol_y rfl rfl (y_nilCheck rfl rfl) ?_
        refine ol_y rfl rfl (y_fieldAddr rfl fo132_3 rfl) ?_
        refine ol_y rfl rfl (y_load rfl rfl (fun _ e => ldeq e (ld1 scl3 (cellH_blk (by assumption) rfl)))) ?_
        refine ol_y rfl rfl (y_assign rfl rfl) ?_
        refine ol_nil ?_
        refine thenX_n ?_
        refine cd_ret ?_
        refine thenX_r ?_
        refine ret1 Try.results61 rfl ?_
        exact ⟨vint (by rw [cntF_tail f (show n ≤ i.toNat by omega) hW.out]), rfl⟩
      · (try replace hc1 := of_decide_eq_false hc1)
        have hk8 : (0 : Int) ≤ i / 64 / 8 ∧ i / 64 / 8 < aa.length := by omega
        have hk1 : (0 : Int) ≤ i / 64 ∧ i / 64 < ws.length := by omega
        have hu := hW.gt_rng hk1.1 hk1.2
        have hc8 := hcnt _ hk8.1 hk8.2
        refine cd_skip ?_
        refine thenX_n ?_
        refine cd_seq ?_
        refine cd_region ?_
        refine ol_y rfl rfl (y_move rfl rfl) ?_
        refine ol_y rfl rfl (y_quoi rfl rfl rfl (in64 (by omega) (by omega)) (by omega) (by omega)) ?_
        refine ol_y rfl rfl (y_assign rfl rfl) ?_
        refine ol_nil ?_
        refine thenX_n ?_
        refine cd_seq ?_
        refine cd_region ?_
        refine ol_y rfl rfl (y_move rfl rfl) ?_
        refine ol_y rfl rfl (y_nilCheck rfl rfl) ?_
        refine ol_y rfl rfl (y_fieldAddr rfl fo132_2 rfl) ?_
        refine ol_y rfl rfl (y_load rfl rfl (fun _ e => ldeq e (ld1 scl22 (cellH_blk (by assumption) rfl)))) ?_
        refine ol_y rfl rfl (y_move rfl rfl) ?_
        refine ol_y rfl rfl (y_quoi rfl rfl rfl (in64 (by omega) (by omega)) (by omega) (by omega)) ?_
        refine ol_y rfl rfl (y_indexV rfl Try.underlying22 sz3 rfl (by first | assumption | exact SlV.mk' _ _ _ _) rfl (by omega) (by omega)) ?_
        refine ol_y rfl rfl (y_load rfl rfl (fun _ e => ldeq e (ld_row scl3 (by assumption) (by omega) (by omega)))) ?_
        refine ol_y rfl rfl (y_assign rfl rfl) ?_
        refine ol_nil ?_
        refine thenX_n ?_
        refine cd_seq ?_
        refine cd_seq ?_
        refine cd_region ?_
        refine ol_y rfl rfl (y_move rfl rfl) ?_
        refine ol_y rfl rfl (y_quoi rfl rfl rfl (in64 (by omega) (by omega)) (by omega) (by omega)) ?_
        refine ol_y rfl rfl (y_muli rfl rfl rfl (in64 (by omega) (by omega))) ?_
        refine ol_y rfl rfl (y_assign rfl rfl) ?_
        refine ol_nil ?_
        refine thenX_n ?_
        refine cd_block ?_
        refine cd_loop (γ := Nat) (fun k => [(0, .pointer (some ⟨b, 0, none⟩)), (1, .int .i64 i), (5, .int .i64 (i / 64)), (6, .int .i64 (cntF f (64 * k))), (7, .int .i64 k)]) (fun k h' => h = h' ∧ i / 64 / 8 * 8 ≤ k ∧ (k : Int) ≤ i / 64) (fun k => (i / 64).toNat - k) ((i / 64 / 8 * 8).toNat) ?_ ?_ ?_
        · exact ⟨rfl, rfl, rfl, vint (by rw [hc8]; congr 2; omega), vint (by omega), trivial⟩
        · exact ⟨rfl, by omega, by omega⟩
        · skip
          rintro k ρ h2 ⟨rfl, hk2, hk3⟩
          (try dsimp only)
          refine cd_seq ?_
          refine cd_seq ?_
          refine cd_region ?_
          refine ol_y rfl rfl (y_move rfl rfl) ?_
          refine ol_y rfl rfl (y_move rfl rfl) ?_
          refine ol_y rfl rfl (y_lss rfl rfl rfl) ?_
          refine ol_nil ?_
          refine thenX_n ?_
          refine cd_cond _ rfl (fun hc2 => ?_) (fun hc2 => ?_)
          · (try replace hc2 := of_decide_eq_true hc2)
            refine cd_skip ?_
            refine thenX_n ?_
            refine cd_seq ?_
            refine cd_block ?_
            refine cd_region ?_
            refine ol_y rfl rfl (y_move rfl rfl) ?_
            refine ol_y rfl rfl (y_move rfl rfl) ?_
            refine ol_y rfl rfl (y_nilCheck rfl rfl) ?_
            refine ol_y rfl rfl (y_fieldAddr rfl fo132_1 rfl) ?_
            refine ol_y rfl rfl (y_load rfl rfl (fun _ e => ldeq e (ld1 scl127 (cellH_blk (by assumption) rfl)))) ?_
            refine ol_y rfl rfl (y_move rfl rfl) ?_
            refine ol_y rfl rfl (y_indexV rfl Try.underlying127 sz85 rfl (by first | assumption | exact SlV.mk' _ _ _ _) rfl (by omega) (by omega)) ?_
            refine ol_y rfl rfl (y_load rfl rfl (fun _ e => ldeq e (ld_row scl85 (by assumption) (by omega) (by omega)))) ?_
            have hle := cntF_le f (64 * k)
            have hpop := popN_le (gt ws (k : Int)).toNat
            refine ol_x rfl rfl (x_call rfl go87 rfl (c_OnesCount64 (hW.gt_rng (k := (k : Int)) (by omega) (by omega)).1 (hW.gt_rng (by omega) (by omega)).2)) ?_
            rintro _ _ ⟨rfl, rfl⟩
            refine ol_y rfl rfl (y_addi rfl rfl rfl (in64 (by omega) (by omega))) ?_
            refine ol_y rfl rfl (y_assign rfl rfl) ?_
            refine ol_nil ?_
            refine blockX_n ?_
            refine thenX_n ?_
            refine cd_region ?_
            refine ol_y rfl rfl (y_move rfl rfl) ?_
            refine ol_y rfl rfl (y_addi rfl rfl rfl (in64 (by omega) (by omega))) ?_
            refine ol_y rfl rfl (y_assign rfl rfl) ?_
            refine ol_nil ?_
            refine thenX_n ?_
            exact ⟨k + 1, ⟨rfl, rfl, rfl, vint (by have := hW.pop (k := (k : Int)) (by omega) (by omega); simp only [Int.toNat_natCast] at this; omega), vint (by omega), trivial⟩, ⟨rfl, by omega, by omega⟩, by omega⟩
          · (try replace hc2 := of_decide_eq_false hc2)
            refine cd_exit ?_
            refine thenX_e ?_
            refine thenX_e ?_
            refine blockX_hit ?_
            refine thenX_n ?_
            refine cd_seq ?_
            refine cd_draw (none) (fun x => x = h) [(0, 0), (1, 0), (2, 0), (3, 0), (4, 1), (5, 0), (6, 0), (7, 1), (8, 0), (9, 0), (10, 0), (11, 0), (12, 0), (13, 2), (14, 0), (15, 0)] mixed (by kernel_rfl) (by kernel_rfl) (by kernel_rfl) ?_ ?_
            · exact rfl
            refine hs_p rfl rfl rfl (y_move rfl rfl) ?_
            refine hs_p rfl rfl rfl (y_move rfl rfl) ?_
            refine hs_p rfl rfl rfl (y_nilCheck rfl rfl) ?_
            refine hs_p rfl rfl rfl (y_fieldAddr rfl fo132_1 rfl) ?_
            refine hs_y rfl rfl rfl (y_load rfl rfl (fun _ e => ldeq e (ld1 scl127 (cellH_blk (by assumption) rfl)))) ?_
            refine hs_p rfl rfl rfl (y_move rfl rfl) ?_
            refine hs_p rfl rfl rfl (y_indexV rfl Try.underlying127 sz85 rfl (by first | assumption | exact SlV.mk' _ _ _ _) rfl (by omega) (by omega)) ?_
            refine hs_y rfl rfl rfl (y_load rfl rfl (fun _ e => ldeq e (ld_row scl85 (by assumption) (by omega) (by omega)))) ?_
            refine hs_p rfl rfl rfl (y_move rfl rfl) ?_
            refine hs_p rfl rfl rfl (y_remi rfl rfl rfl (by omega) (by omega)) ?_
            refine hs_p rfl rfl rfl (y_shl rfl rfl rfl (by omega)) ?_
            refine hs_p rfl rfl rfl (y_sub rfl rfl rfl) ?_
            refine hs_p rfl rfl rfl ((y_bits rfl rfl rfl rfl).eq (vint (mask64 hu.1 hu.2 (by omega) (by omega)))) ?_
            have hle := cntF_le f (64 * k)
            have hpop := popN_le (((gt ws (i / 64)).toNat &&& (2 ^ (i % 64).toNat - 1) : Nat) : Int).toNat
            have hand : (gt ws (i / 64)).toNat &&& (2 ^ (i % 64).toNat - 1) ≤ (gt ws (i / 64)).toNat := Nat.and_le_left
            refine hs_x rfl rfl rfl (x_call rfl go87 rfl (c_OnesCount64 (x := ((gt ws (i / 64)).toNat &&& (2 ^ (i % 64).toNat - 1) : Nat)) (by omega) (by omega))) ?_
            rintro _ _ ⟨rfl, rfl⟩
            refine ⟨rfl, ?_⟩
            refine hs_p rfl rfl rfl (y_addi rfl rfl rfl (in64 (by omega) (by omega))) ?_
            refine hs_p rfl rfl rfl (y_assign rfl rfl) ?_
            refine hs_nil ?_
            refine thenX_n ?_
            refine cd_ret ?_
            refine ret1 Try.results61 rfl ?_
            refine ⟨vint ?_, rfl⟩
            have hk := hW.popMask hk1.1 hk1.2 (r := (i % 64).toNat) (by omega)
            have e1 : 64 * (i / 64).toNat + (i % 64).toNat = i.toNat := by omega
            rw [e1] at hk
            have e2 : k = (i / 64).toNat := by omega
            rw [Int.toNat_natCast, e2]; omega


theorem c_VecZeros {h : Heap} {b : Nat} {f : Nat → Bool} {n : Nat} {i : Int} (hv : VecF h b f n) (hi : -9223372036854775808 ≤ i ∧ i ≤ 9223372036854775807) :
    FnT Try.prog 60 [.pointer (some ⟨b, 0, none⟩), .int .i64 i] h (fun v h' => v = .int .i64 (max 0 (min i n) - cntF f i.toNat) ∧ h = h') := by
  obtain ⟨T, wv, av, wb, wc, ab, ac, ws, aa, hb, hwv, hws, hav, haa, hW, hal, hcnt, hn⟩ := hv.out
  have hwl := hW.len
  have hle := cntF_le f n
  have hle2 : cntF f i.toNat ≤ cntF f n := by
    rcases Nat.le_total i.toNat n with q | q
    · exact cntF_mono f q
    · rw [cntF_tail f q hW.out]; exact Nat.le_refl _
  refine fn_enter Try.func60 rfl Try.ntmps60 rfl ?_
  refine cd_seq ?_
  refine cd_region ?_
  refine ol_y rfl rfl (y_assign rfl rfl) ?_
  refine ol_nil ?_
  refine thenX_n ?_
  refine cd_seq ?_
  refine cd_region ?_
  refine ol_y rfl rfl (y_move rfl rfl) ?_
  refine ol_y rfl rfl (y_move rfl rfl) ?_
  refine ol_x rfl rfl (x_call rfl go58 rfl (c_VecLen hv)) ?_
  rintro _ _ ⟨rfl, rfl⟩
  refine ol_y rfl rfl (y_min rfl rfl rfl) ?_
  refine ol_y rfl rfl (y_max rfl rfl rfl) ?_
  refine ol_y rfl rfl (y_move rfl rfl) ?_
  refine ol_y rfl rfl (y_move rfl rfl) ?_
  refine ol_x rfl rfl (x_call rfl go61 rfl (c_VecRank hv)) ?_
  rintro _ _ ⟨rfl, rfl⟩
  refine ol_y rfl rfl (y_subi rfl rfl rfl (in64 (by omega) (by omega))) ?_
  refine ol_y rfl rfl (y_assign rfl rfl) ?_
  refine ol_nil ?_
  refine thenX_n ?_
  refine cd_ret ?_
  refine ret1 Try.results60 rfl ?_
  exact ⟨rfl, rfl⟩


end Go.X
