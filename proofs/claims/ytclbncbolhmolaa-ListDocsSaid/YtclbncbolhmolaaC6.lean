/- wave.New: printed walk. -/
import Derived.Test.YtclbncbolhmolaaC5
import Derived.Test.YtclbncbolhmolaaM3
namespace Go.X
open Go Go.Proofs
set_option linter.unusedVariables false
set_option linter.unusedSimpArgs false

/-- the lists of bits that stand at vbs, j of them -/
def allV (F : Nat → Nat → Bool) (n : Nat) (vbs : List Nat) : Nat → HP
  | 0 => HP.emp
  | j + 1 => (vecP (vbs.getD j 0) (F j) n).sep (allV F n vbs j)
theorem allV_congr {F : Nat → Nat → Bool} {n : Nat} {a b : List Nat} : ∀ j, (∀ i, i < j → a.getD i 0 = b.getD i 0) → allV F n a j = allV F n b j
  | 0, _ => rfl
  | j + 1, h => by simp only [allV]; rw [allV_congr j fun i hi => h i (by omega), h j (by omega)]
theorem allV_F {F : Nat → Nat → Bool} {n : Nat} {vbs : List Nat} {h : Heap} {L : List HP} : ∀ j, Sep h (allV F n vbs j :: L) → ∀ i, i < j → VecF h (vbs.getD i 0) (F i) n
  | 0, _, i, hi => by omega
  | j + 1, H, i, hi => by
    have H' := H.split
    rcases Nat.lt_or_ge i j with hlt | hge
    · exact allV_F j H'.swap i hlt |> fun x => x
    · obtain rfl : i = j := by omega
      exact vecP_F H'
structure WG where
  j : Nat
  rv : Value
  rb : Nat
  rc : Nat
  lv : Value
  lb : Nat
  lc : Nat
  vbs : List Nat
structure WI where
  k : Nat
  ws : List Int
  lo : Value
  lob : Nat
  loc : Nat
  hi : Value
  hib : Nat
  hic : Nat
theorem allV_zero {F : Nat → Nat → Bool} {n : Nat} {vbs : List Nat} : allV F n vbs 0 = HP.emp := rfl
theorem allV_succ {F : Nat → Nat → Bool} {n : Nat} {vbs : List Nat} {j : Nat} : allV F n vbs (j + 1) = (vecP (vbs.getD j 0) (F j) n).sep (allV F n vbs j) := rfl
attribute [local irreducible] rowP HP.obj HP.old vecP allV
theorem take_succ_gt {xs : List Int} {k : Nat} (h : k < xs.length) : xs.take (k + 1) = xs.take k ++ [gt xs (k : Int)] := by
  have hg := gt_get (xs := xs) (i := (k : Int)) (by omega) (by omega)
  rw [Int.toNat_natCast] at hg
  rw [List.take_add_one, hg]; rfl
theorem rowBits_gt {kb k : Nat} {xs : List Int} (h : k < xs.length) : rowBits kb xs k = bitI kb (gt xs (k : Int)) := by
  have hg := gt_get (xs := xs) (i := (k : Int)) (by omega) (by omega)
  rw [Int.toNat_natCast] at hg
  simp only [rowBits, hg]
theorem rowBits_out {kb k : Nat} {xs : List Int} (h : xs.length ≤ k) : rowBits kb xs k = false := by
  have : xs[k]? = none := List.getElem?_eq_none h
  simp only [rowBits, this]

theorem c_waveNew {h : Heap} {v : Value} {b p c : Nat} {l : List Int} {m : Nat} (hv : SlV v b p l.length c) (hr : Rd eI 1 h b p l) (hl : l.length ≤ 4194304) (hm : m < 4194304) (hrow : ∀ c ∈ l, 0 ≤ c ∧ c ≤ m) :
    FnT Try.prog 17 [v, .int .i64 m] h (fun v' h' => ∃ mb vbs, v' = .tuple #[.pointer (some ⟨mb, 0, none⟩), .int .i64 0] ∧ Ext h h' ∧ MatF h' mb l (max 1 (bl m)) vbs) := by
  have H := Sep.start h
  have hany : l.any (fun x => decide (x < 0 ∨ (m : Int) < x)) = false := by
    rw [List.any_eq_false]
    intro x hx
    have := hrow x hx
    simp; omega
  have hbl := bl_lt m 22 hm
  have hml : m < 2 ^ max 1 (bl m) := by
    unfold bl
    split
    · subst_vars; decide
    · rename_i h0
      have h1 := (Nat.log2_lt h0).1 (Nat.lt_succ_self m.log2)
      exact Nat.lt_of_lt_of_le h1 (Nat.pow_le_pow_right (by decide) (by omega))
  have hwid : ∀ hh, FnT Try.prog 48 [.int .u64 m] hh (fun v h' => v = .int .i64 (max 1 (bl m) : Nat) ∧ hh = h') := fun hh => c_Width hm
  generalize hWd : max 1 (bl m) = W at *
  have hW1 : 1 ≤ W := by omega
  have hW22 : W ≤ 22 := by omega
  refine fn_enter Try.func17 rfl Try.ntmps17 rfl ?_
  refine cd_seq ?_
  refine cd_region ?_
  refine ol_x rfl rfl (x_box rfl rfl rfl H) ?_
  clear H
  rintro _ hm0 ⟨rfl, hz0, H⟩
  replace H : Sep hm0 [blk h.size [.int .i64 m] 3, HP.old h] := H
  have htb := H.obj 0 rfl
  have hr1 := (H.ext 1 rfl).rd hr
  refine ol_y rfl rfl (y_assign rfl rfl) ?_
  refine ol_y rfl rfl (y_assign rfl rfl) ?_
  refine ol_nil ?_
  refine thenX_n ?_
  refine cd_seq ?_
  refine cd_seq ?_
  refine cd_region ?_
  refine ol_y rfl rfl (y_load rfl rfl (fun _ e => ldeq e (ld1 scl3 (cellH_blk (by assumption) rfl)))) ?_
  refine ol_y rfl rfl (y_lss rfl rfl rfl) ?_
  refine ol_y rfl rfl (y_move rfl rfl) ?_
  refine ol_split (t := 19) rfl (fun hg1 => ?_) (fun hg1 => ?_)
  · (try have hg1_ := of_decide_eq_true hg1)
    exfalso; omega
  · (try have hg1_ := of_decide_eq_false hg1)
    refine ol_gy rfl rfl rfl rfl hg1 rfl (y_load rfl rfl (fun _ e => ldeq e (ld1 scl3 (cellH_blk (by assumption) rfl)))) ?_
    refine ol_gy rfl rfl rfl rfl hg1 rfl (y_geq rfl rfl rfl) ?_
    refine ol_y rfl rfl (y_pick_f rfl rfl hg1 rfl) ?_
    refine ol_y rfl rfl (y_move rfl rfl) ?_
    refine ol_split (t := 23) rfl (fun hg2 => ?_) (fun hg2 => ?_)
    · (try have hg2_ := of_decide_eq_true hg2)
      exfalso; omega
    · (try have hg2_ := of_decide_eq_false hg2)
      refine ol_gy rfl rfl rfl rfl hg2 rfl (y_move rfl rfl) ?_
      refine ol_gy rfl rfl rfl rfl hg2 rfl (y_lenV rfl Try.underlying22 rfl (by first | assumption | exact SlV.mk' _ _ _ _)) ?_
      refine ol_gy rfl rfl rfl rfl hg2 rfl (y_gtr rfl rfl rfl) ?_
      refine ol_y rfl rfl (y_pick_f rfl rfl hg2 rfl) ?_
      refine ol_y rfl rfl (y_move rfl rfl) ?_
      refine ol_split (t := 28) rfl (fun hg3 => ?_) (fun hg3 => ?_)
      · (try have hg3_ := of_decide_eq_true hg3)
        exfalso; omega
      · (try have hg3_ := of_decide_eq_false hg3)
        refine ol_gy rfl rfl rfl rfl hg3 rfl (y_move rfl rfl) ?_
        refine ol_gy rfl rfl rfl rfl hg3 rfl (y_makeFunc rfl rfl rfl) ?_
        refine ol_gx rfl rfl rfl rfl hg3 rfl (x_call rfl go46 rfl (c_ContainsFunc (fid := 47) (cap := [.pointer (some ⟨h.size, 0, none⟩)]) (q := fun x => decide (x < 0 ∨ (m : Int) < x)) hv hr1 hl go47 (fun x hx => c_waveNewLit htb))) ?_
        rintro _ _ ⟨rfl, rfl⟩
        refine ol_y rfl rfl (y_pick_f rfl rfl hg3 rfl) ?_
        refine ol_nil ?_
        refine thenX_n ?_
        refine cd_false rfl hany ?_
        refine cd_skip ?_
        refine thenX_n ?_
        refine cd_seq ?_
        refine cd_region ?_
        refine ol_y rfl rfl (y_move rfl rfl) ?_
        refine ol_y rfl rfl (y_lenV rfl Try.underlying22 rfl (by first | assumption | exact SlV.mk' _ _ _ _)) ?_
        refine ol_y rfl rfl (y_load rfl rfl (fun _ e => ldeq e (ld1 scl3 (cellH_blk (by assumption) rfl)))) ?_
        refine ol_y rfl rfl (y_convw rfl ⟨_, Try.underlying3⟩ Try.underlying85 rfl (inu64 (by omega) (by omega))) ?_
        refine ol_x rfl rfl (x_call rfl go48 rfl (hwid _)) ?_
        rintro _ _ ⟨rfl, rfl⟩
        refine ol_y rfl rfl (y_build (cs := [_, _, _]) rfl pl88 zero88 rfl) ?_
        refine ol_x rfl rfl (x_box rfl rfl rfl H) ?_
        clear H
        rintro _ h6 ⟨rfl, hz3, H⟩
        replace H : Sep h6 [blk hm0.size [.int .i64 l.length, .int .i64 W, .slice none 0 0] 88, blk h.size [.int .i64 m] 3, HP.old h] := H
        have hr2 := (H.ext 2 rfl).rd hr
        refine ol_y rfl rfl (y_assign rfl rfl) ?_
        refine ol_nil ?_
        refine thenX_n ?_
        refine cd_seq ?_
        refine cd_region ?_
        refine ol_y rfl rfl (y_move rfl rfl) ?_
        refine ol_x rfl rfl (x_call rfl go49 rfl (c_CloneI H hv hr2 hl)) ?_
        clear H
        rintro v_ h8 ⟨hz4, b_, c_, H⟩
        refine ol_y rfl rfl (y_assign rfl rfl) ?_
        refine ol_nil ?_
        refine thenX_n ?_
        refine cd_seq ?_
        refine cd_seq ?_
        refine cd_region ?_
        have hmb := H.obj 1 rfl
        refine ol_y rfl rfl (y_move rfl rfl) ?_
        refine ol_y rfl rfl (y_nilCheck rfl rfl) ?_
        refine ol_y rfl rfl (y_fieldAddr rfl fo88_1 rfl) ?_
        refine ol_y rfl rfl (y_load rfl rfl (fun _ e => ldeq e (ld1 scl3 (cellH_blk (by assumption) rfl)))) ?_
        refine ol_y rfl rfl (y_subi rfl rfl rfl (in64 (by omega) (by omega))) ?_
        refine ol_y rfl rfl (y_assign rfl rfl) ?_
        refine ol_nil ?_
        refine thenX_n ?_
        refine cd_block ?_
        refine cd_loop (γ := WG) (fun g => [(6, .pointer (some ⟨hm0.size, 0, none⟩)), (7, g.rv), (8, .int .i64 ((W : Int) - 1 - g.j))]) (fun g h' => g.j ≤ W ∧ g.vbs.length = g.j ∧ Sep h' [blk hm0.size [.int .i64 l.length, .int .i64 W, g.lv] 88, rowP eI 1 3 g.rv g.rb g.rc (lvRow W l g.j), rowP eP 1 93 g.lv g.lb g.lc g.vbs, allV (fun j => rowBits (W - 1 - j) (lvRow W l j)) l.length g.vbs g.j, HP.old h]) (fun g => W - g.j) (⟨0, v_, b_, c_, .slice none 0 0, 0, 0, []⟩) ?_ ?_ ?_
        · exact ⟨rfl, rfl, vint (by simp), trivial⟩
        · refine ⟨Nat.zero_le _, rfl, ?_⟩
          rw [allV_zero]
          have H1 := Sep.sel H [1, 0, 1]
          dsimp only [selP, nthP, eraseP] at H1
          have H2 := (H1.rowNil eP 1 93 0).ins 2
          dsimp only [insP] at H2
          have H3 := H2.empI.ins 3
          dsimp only [insP] at H3
          exact H3
        · skip
          rintro ⟨j, rv, rb, rc, lv, lb, lc, vbs⟩ ρ h9 ⟨hj, hvl, H⟩
          (try dsimp only)
          dsimp only at hj hvl H
          have hlen := lvRow_length W l j
          have hrv := H.rowV eI_ok 1 rfl
          have hlvv := H.rowV eP_ok 2 rfl
          refine cd_seq ?_
          refine cd_seq ?_
          refine cd_region ?_
          refine ol_y rfl rfl (y_move rfl rfl) ?_
          refine ol_y rfl rfl (y_geq rfl rfl rfl) ?_
          refine ol_nil ?_
          refine thenX_n ?_
          refine cd_cond _ rfl (fun hc1 => ?_) (fun hc1 => ?_)
          · (try replace hc1 := of_decide_eq_true hc1)
            refine cd_skip ?_
            refine thenX_n ?_
            refine cd_seq ?_
            refine cd_block ?_
            refine cd_seq ?_
            refine cd_region ?_
            refine ol_y rfl rfl (y_move rfl rfl) ?_
            refine ol_y rfl rfl (y_nilCheck rfl rfl) ?_
            have hmb := H.obj 0 rfl
            refine ol_y rfl rfl (y_fieldAddr rfl fo88_0 rfl) ?_
            refine ol_y rfl rfl (y_load rfl rfl (fun _ e => ldeq e (ld1 scl3 (cellH_blk (by assumption) rfl)))) ?_
            refine ol_x rfl rfl (x_call rfl go50 rfl (c_packNew (w := 1) (n := l.length) H (by omega) (by omega) hl)) ?_
            clear H
            rintro _ h11 ⟨hz8, pb, wb, wv, rfl, H⟩
            refine ol_y rfl rfl (y_move rfl rfl) ?_
            refine ol_y rfl rfl (y_extract rfl rfl rfl) ?_
            refine ol_y rfl rfl (y_extract rfl rfl rfl) ?_
            refine ol_y rfl rfl (y_assign rfl rfl) ?_
            refine ol_y rfl rfl (y_assign rfl rfl) ?_
            refine ol_nil ?_
            refine thenX_n ?_
            refine cd_seq ?_
            refine cd_region ?_
            refine ol_y rfl rfl (y_assign rfl rfl) ?_
            refine ol_y rfl rfl (y_assign rfl rfl) ?_
            refine ol_nil ?_
            refine thenX_n ?_
            refine cd_seq ?_
            refine cd_seq ?_
            refine cd_region ?_
            refine ol_y rfl rfl (y_move rfl rfl) ?_
            refine ol_y rfl rfl (y_lenV rfl Try.underlying22 rfl (by first | assumption | exact SlV.mk' _ _ _ _)) ?_
            refine ol_y rfl rfl (y_move rfl rfl) ?_
            refine ol_nil ?_
            refine thenX_n ?_
            refine cd_block ?_
            refine cd_loop (γ := WI) (fun g => [(6, .pointer (some ⟨hm0.size, 0, none⟩)), (8, .int .i64 ((W : Int) - 1 - j)), (9, .pointer (some ⟨pb, 0, none⟩)), (11, g.lo), (12, g.hi), (59, rv), (60, .int .i64 (lvRow W l j).length), (61, .int .i64 g.k)]) (fun g h' => g.k ≤ (lvRow W l j).length ∧ WordsOf g.ws (fun q => decide (q < g.k) && rowBits (W - 1 - j) (lvRow W l j) q) l.length ∧ Sep h' [blk pb [.int .i64 (1 : Nat), .int .i64 l.length, wv] 129, rowP eU 1 85 wv wb ((1 * l.length + 63) / 64) g.ws, rowP eI 1 3 g.lo g.lob g.loc (((lvRow W l j).take g.k).filter fun c => !bitI (W - 1 - j) c), rowP eI 1 3 g.hi g.hib g.hic (((lvRow W l j).take g.k).filter fun c => bitI (W - 1 - j) c), blk hm0.size [.int .i64 l.length, .int .i64 W, lv] 88, rowP eI 1 3 rv rb rc (lvRow W l j), rowP eP 1 93 lv lb lc vbs, allV (fun j => rowBits (W - 1 - j) (lvRow W l j)) l.length vbs j, HP.old h]) (fun g => (lvRow W l j).length - g.k) (⟨0, List.replicate ((1 * l.length + 63) / 64) 0, .slice none 0 0, 0, 0, .slice none 0 0, 0, 0⟩) ?_ ?_ ?_
            · (repeat (first | exact trivial | refine ⟨rfl, ?_⟩))
            · refine ⟨Nat.zero_le _, by simpa using words_zero l.length, ?_⟩
              have H2 := (H.rowNil eI 1 3 0).ins 2
              dsimp only [insP] at H2
              have H3 := (H2.rowNil eI 1 3 0).ins 2
              dsimp only [insP] at H3
              exact H3
            · skip
              rintro ⟨k, ws, lo, lob, loc, hi, hib, hic⟩ ρ h12 ⟨hk, hWo, H⟩
              (try dsimp only)
              dsimp only at hk hWo H
              have hrr := H.rowR eI_ok 5 rfl
              refine cd_seq ?_
              refine cd_region ?_
              refine ol_y rfl rfl (y_lss rfl rfl rfl) ?_
              refine ol_nil ?_
              refine thenX_n ?_
              refine cd_seq ?_
              refine cd_cond _ rfl (fun hc2 => ?_) (fun hc2 => ?_)
              · (try replace hc2 := of_decide_eq_true hc2)
                have hlt : k < (lvRow W l j).length := by omega
                have hrng := hrow _ ((mem_lvRow j).1 (List.mem_of_getElem? (gt_get (xs := lvRow W l j) (i := (k : Int)) (by omega) (by omega))))
                have heq : ((W : Int) - 1 - j).toNat = W - 1 - j := by omega
                refine cd_skip ?_
                refine thenX_n ?_
                refine cd_seq ?_
                refine cd_block ?_
                refine cd_seq ?_
                refine cd_region ?_
                refine ol_y rfl rfl (y_move rfl rfl) ?_
                refine ol_y rfl rfl (y_indexV rfl Try.underlying22 sz3 rfl (by first | assumption | exact SlV.mk' _ _ _ _) rfl (by omega) (by omega)) ?_
                refine ol_y rfl rfl (y_load rfl rfl (fun _ e => ldeq e (ld_row scl3 (by assumption) (by omega) (by omega)))) ?_
                refine ol_y rfl rfl (y_assign rfl rfl) ?_
                refine ol_y rfl rfl (y_assign rfl rfl) ?_
                refine ol_nil ?_
                refine thenX_n ?_
                refine cd_seq ?_
                refine cd_region ?_
                refine ol_y rfl rfl (y_move rfl rfl) ?_
                refine ol_y rfl rfl (y_move rfl rfl) ?_
                refine ol_y rfl rfl (y_shri rfl rfl rfl (by omega) (by show (_ : Int) ≤ 64; omega)) ?_
                refine ol_y rfl rfl ((y_bits rfl rfl rfl rfl).eq (vint (and1_i64 (Int.ediv_nonneg hrng.1 (Int.pow_nonneg (by decide))) (by have := Int.ediv_le_self (2 ^ ((W : Int) - 1 - j).toNat) hrng.1; omega)))) ?_
                refine ol_y rfl rfl (y_eql rfl rfl rfl) ?_
                refine ol_nil ?_
                refine thenX_n ?_
                refine cd_cond _ rfl (fun hc3 => ?_) (fun hc3 => ?_)
                · (try replace hc3 := of_decide_eq_true hc3)
                  refine cd_seq ?_
                  refine cd_region ?_
                  refine ol_y rfl rfl (y_move rfl rfl) ?_
                  refine ol_y rfl rfl (y_move rfl rfl) ?_
                  refine ol_x rfl rfl (x_call rfl go51 rfl (c_IntsSet (w := 1) (n := l.length) (i := k) (v := 1) H (by omega) hl (by rw [hWo.len]; omega) (by omega) (by omega) (by decide))) ?_
                  clear H
                  rintro _ h14 ⟨rfl, hz14, H⟩
                  refine ol_nil ?_
                  refine thenX_n ?_
                  refine cd_region ?_
                  refine ol_y rfl rfl (y_move rfl rfl) ?_
                  refine ol_y rfl rfl (y_move rfl rfl) ?_
                  refine ol_x rfl rfl (x_buildSlice (cs := [_]) rfl Try.underlying22 info3 rfl rfl rfl rfl H) ?_
                  clear H
                  rintro _ h15 ⟨rfl, hz_b, H⟩
                  replace H := Sep.rowBlk (enc := eI) (xs := [(gt (lvRow W l j) (k : Int))]) eI_ok rfl (one_maxLen _) H
                  have hv15_3 := H.rowV eI_ok 0 rfl
                  have hr15_3 := H.rowR eI_ok 0 rfl
                  replace H := H.drop
                  have HF := H.front 3
                  dsimp only [nthP, eraseP] at HF
                  refine ol_x rfl rfl (x_append (enc := eI) rfl Try.underlying22 info3 rfl (by decide) eI_ok rfl rfl hv15_3 hr15_3 rfl (by simp only [List.length_cons, List.length_nil]; have := List.length_filter_le (fun c => bitI (W - 1 - j) c) ((lvRow W l j).take k); simp only [List.length_take, maxLen] at *; omega) (by simp only [List.length_cons, List.length_nil]; have := List.length_filter_le (fun c => bitI (W - 1 - j) c) ((lvRow W l j).take k); simp only [List.length_take, maxLen] at *; omega) HF) ?_
                  clear H HF hv15_3 hr15_3
                  rintro hi2 h16 ⟨hz_, hib2, hic2, H⟩
                  replace H := H.ins 3
                  dsimp only [insP] at H
                  have hhi2 := H.rowV eI_ok 3 rfl
                  refine ol_y rfl rfl (y_assign rfl rfl) ?_
                  refine ol_nil ?_
                  refine blockX_n ?_
                  refine thenX_n ?_
                  refine cd_region ?_
                  refine ol_y rfl rfl (y_addi rfl rfl rfl (in64 (by omega) (by omega))) ?_
                  refine ol_y rfl rfl (y_move rfl rfl) ?_
                  refine ol_nil ?_
                  refine thenX_n ?_
                  have hwz : WordsOf ws (fun q => decide (q < k + 1) && rowBits (W - 1 - j) (lvRow W l j) q) l.length ∨ bitI (W - 1 - j) (gt (lvRow W l j) (k : Int)) = true := by
                    cases hb : bitI (W - 1 - j) (gt (lvRow W l j) (k : Int)) with
                    | true => exact .inr rfl
                    | false =>
                      left
                      have e : (fun q => decide (q < k + 1) && rowBits (W - 1 - j) (lvRow W l j) q) = (fun q => decide (q < k) && rowBits (W - 1 - j) (lvRow W l j) q) := by
                        funext q
                        by_cases hq : q = k
                        · subst hq; rw [rowBits_gt hlt, hb]; simp
                        · have : decide (q < k + 1) = decide (q < k) := by simp; omega
                          rw [this]
                      rw [e]; exact hWo
                  first
                    | (have hb : bitI (W - 1 - j) (gt (lvRow W l j) (k : Int)) = true := by rw [heq] at hc3; simpa [bitI] using hc3
                       have hw2 := setW_one hWo (i := k) (by omega)
                       have e : (fun q => (decide (q < k) && rowBits (W - 1 - j) (lvRow W l j) q) || decide (q = k)) = (fun q => decide (q < k + 1) && rowBits (W - 1 - j) (lvRow W l j) q) := by
                         funext q
                         by_cases hq : q = k
                         · subst hq; rw [rowBits_gt hlt, hb]; simp
                         · have : decide (q < k + 1) = decide (q < k) := by simp; omega
                           rw [this]; simp [hq]
                       rw [e] at hw2
                       refine ⟨⟨k + 1, setW 1 ws k 1, lo, lob, loc, hi2, hib2, hic2⟩, ⟨rfl, rfl, rfl, rfl, rfl, rfl, rfl, vint (by simp), trivial⟩, ⟨by (try dsimp only); omega, hw2, ?_⟩, by (try dsimp only); omega⟩
                       (try dsimp only)
                       rw [take_succ_gt hlt, List.filter_append, List.filter_append]
                       have f1 : [gt (lvRow W l j) (k : Int)].filter (fun c => !bitI (W - 1 - j) c) = [] := by simp [hb]
                       have f2 : [gt (lvRow W l j) (k : Int)].filter (fun c => bitI (W - 1 - j) c) = [gt (lvRow W l j) (k : Int)] := by simp [hb]
                       rw [f1, f2, List.append_nil]
                       exact H)
                    | (have hb : bitI (W - 1 - j) (gt (lvRow W l j) (k : Int)) = false := by rw [heq] at hc3; simpa [bitI] using hc3
                       have hw2 := hwz.resolve_right (by rw [hb]; simp)
                       refine ⟨⟨k + 1, ws, lo2, lob2, loc2, hi, hib, hic⟩, ⟨rfl, rfl, rfl, rfl, rfl, rfl, rfl, vint (by simp), trivial⟩, ⟨by (try dsimp only); omega, hw2, ?_⟩, by (try dsimp only); omega⟩
                       (try dsimp only)
                       rw [take_succ_gt hlt, List.filter_append, List.filter_append]
                       have f1 : [gt (lvRow W l j) (k : Int)].filter (fun c => !bitI (W - 1 - j) c) = [gt (lvRow W l j) (k : Int)] := by simp [hb]
                       have f2 : [gt (lvRow W l j) (k : Int)].filter (fun c => bitI (W - 1 - j) c) = [] := by simp [hb]
                       rw [f1, f2, List.append_nil]
                       exact H)
                · (try replace hc3 := of_decide_eq_false hc3)
                  refine cd_region ?_
                  refine ol_y rfl rfl (y_move rfl rfl) ?_
                  refine ol_y rfl rfl (y_move rfl rfl) ?_
                  refine ol_x rfl rfl (x_buildSlice (cs := [_]) rfl Try.underlying22 info3 rfl rfl rfl rfl H) ?_
                  clear H
                  rintro _ h17 ⟨rfl, hz_b, H⟩
                  replace H := Sep.rowBlk (enc := eI) (xs := [(gt (lvRow W l j) (k : Int))]) eI_ok rfl (one_maxLen _) H
                  have hv16_3 := H.rowV eI_ok 0 rfl
                  have hr16_3 := H.rowR eI_ok 0 rfl
                  replace H := H.drop
                  have HF := H.front 2
                  dsimp only [nthP, eraseP] at HF
                  refine ol_x rfl rfl (x_append (enc := eI) rfl Try.underlying22 info3 rfl (by decide) eI_ok rfl rfl hv16_3 hr16_3 rfl (by simp only [List.length_cons, List.length_nil]; have := List.length_filter_le (fun c => !bitI (W - 1 - j) c) ((lvRow W l j).take k); simp only [List.length_take, maxLen] at *; omega) (by simp only [List.length_cons, List.length_nil]; have := List.length_filter_le (fun c => !bitI (W - 1 - j) c) ((lvRow W l j).take k); simp only [List.length_take, maxLen] at *; omega) HF) ?_
                  clear H HF hv16_3 hr16_3
                  rintro lo2 h18 ⟨hz_, lob2, loc2, H⟩
                  replace H := H.ins 2
                  dsimp only [insP] at H
                  have hlo2 := H.rowV eI_ok 2 rfl
                  refine ol_y rfl rfl (y_assign rfl rfl) ?_
                  refine ol_nil ?_
                  refine blockX_n ?_
                  refine thenX_n ?_
                  refine cd_region ?_
                  refine ol_y rfl rfl (y_addi rfl rfl rfl (in64 (by omega) (by omega))) ?_
                  refine ol_y rfl rfl (y_move rfl rfl) ?_
                  refine ol_nil ?_
                  refine thenX_n ?_
                  have hwz : WordsOf ws (fun q => decide (q < k + 1) && rowBits (W - 1 - j) (lvRow W l j) q) l.length ∨ bitI (W - 1 - j) (gt (lvRow W l j) (k : Int)) = true := by
                    cases hb : bitI (W - 1 - j) (gt (lvRow W l j) (k : Int)) with
                    | true => exact .inr rfl
                    | false =>
                      left
                      have e : (fun q => decide (q < k + 1) && rowBits (W - 1 - j) (lvRow W l j) q) = (fun q => decide (q < k) && rowBits (W - 1 - j) (lvRow W l j) q) := by
                        funext q
                        by_cases hq : q = k
                        · subst hq; rw [rowBits_gt hlt, hb]; simp
                        · have : decide (q < k + 1) = decide (q < k) := by simp; omega
                          rw [this]
                      rw [e]; exact hWo
                  first
                    | (have hb : bitI (W - 1 - j) (gt (lvRow W l j) (k : Int)) = true := by rw [heq] at hc3; simpa [bitI] using hc3
                       have hw2 := setW_one hWo (i := k) (by omega)
                       have e : (fun q => (decide (q < k) && rowBits (W - 1 - j) (lvRow W l j) q) || decide (q = k)) = (fun q => decide (q < k + 1) && rowBits (W - 1 - j) (lvRow W l j) q) := by
                         funext q
                         by_cases hq : q = k
                         · subst hq; rw [rowBits_gt hlt, hb]; simp
                         · have : decide (q < k + 1) = decide (q < k) := by simp; omega
                           rw [this]; simp [hq]
                       rw [e] at hw2
                       refine ⟨⟨k + 1, setW 1 ws k 1, lo, lob, loc, hi2, hib2, hic2⟩, ⟨rfl, rfl, rfl, rfl, rfl, rfl, rfl, vint (by simp), trivial⟩, ⟨by (try dsimp only); omega, hw2, ?_⟩, by (try dsimp only); omega⟩
                       (try dsimp only)
                       rw [take_succ_gt hlt, List.filter_append, List.filter_append]
                       have f1 : [gt (lvRow W l j) (k : Int)].filter (fun c => !bitI (W - 1 - j) c) = [] := by simp [hb]
                       have f2 : [gt (lvRow W l j) (k : Int)].filter (fun c => bitI (W - 1 - j) c) = [gt (lvRow W l j) (k : Int)] := by simp [hb]
                       rw [f1, f2, List.append_nil]
                       exact H)
                    | (have hb : bitI (W - 1 - j) (gt (lvRow W l j) (k : Int)) = false := by rw [heq] at hc3; simpa [bitI] using hc3
                       have hw2 := hwz.resolve_right (by rw [hb]; simp)
                       refine ⟨⟨k + 1, ws, lo2, lob2, loc2, hi, hib, hic⟩, ⟨rfl, rfl, rfl, rfl, rfl, rfl, rfl, vint (by simp), trivial⟩, ⟨by (try dsimp only); omega, hw2, ?_⟩, by (try dsimp only); omega⟩
                       (try dsimp only)
                       rw [take_succ_gt hlt, List.filter_append, List.filter_append]
                       have f1 : [gt (lvRow W l j) (k : Int)].filter (fun c => !bitI (W - 1 - j) c) = [gt (lvRow W l j) (k : Int)] := by simp [hb]
                       have f2 : [gt (lvRow W l j) (k : Int)].filter (fun c => bitI (W - 1 - j) c) = [] := by simp [hb]
                       rw [f1, f2, List.append_nil]
                       exact H)
              · (try replace hc2 := of_decide_eq_false hc2)
                have hk2 : k = (lvRow W l j).length := by omega
                subst hk2
                rw [List.take_length] at H
                have hWf : WordsOf ws (rowBits (W - 1 - j) (lvRow W l j)) l.length := by
                  have e : (fun q => decide (q < (lvRow W l j).length) && rowBits (W - 1 - j) (lvRow W l j) q) = rowBits (W - 1 - j) (lvRow W l j) := by
                    funext q
                    rcases Nat.lt_or_ge q (lvRow W l j).length with hq | hq
                    · simp [hq]
                    · rw [rowBits_out hq]; simp
                  rw [e] at hWo; exact hWo
                have hpb := H.obj 0 rfl
                have hwv := H.rowV eU_ok 1 rfl
                have hws := H.rowR eU_ok 1 rfl
                refine cd_exit ?_
                refine thenX_e ?_
                refine thenX_e ?_
                refine blockX_hit ?_
                refine thenX_n ?_
                refine cd_seq ?_
                refine cd_region ?_
                refine ol_y rfl rfl (y_move rfl rfl) ?_
                refine ol_x rfl rfl (x_call rfl go52 rfl (c_rankNew (n := l.length) H hpb hwv hws hWf hl)) ?_
                clear H
                rintro _ h20 ⟨hz18, vb, rfl, H⟩
                refine ol_y rfl rfl (y_move rfl rfl) ?_
                refine ol_y rfl rfl (y_extract rfl rfl rfl) ?_
                refine ol_y rfl rfl (y_extract rfl rfl rfl) ?_
                refine ol_y rfl rfl (y_assign rfl rfl) ?_
                refine ol_y rfl rfl (y_assign rfl rfl) ?_
                refine ol_nil ?_
                refine thenX_n ?_
                refine cd_seq ?_
                refine cd_region ?_
                refine ol_y rfl rfl (y_move rfl rfl) ?_
                refine ol_y rfl rfl (y_move rfl rfl) ?_
                refine ol_y rfl rfl (y_nilCheck rfl rfl) ?_
                refine ol_y rfl rfl (y_fieldAddr rfl fo88_2 rfl) ?_
                have hmb := H.obj 5 rfl
                refine ol_y rfl rfl (y_load rfl rfl (fun _ e => ldeq e (ld1 scl86 (cellH_blk (by assumption) rfl)))) ?_
                refine ol_y rfl rfl (y_move rfl rfl) ?_
                refine ol_x rfl rfl (x_buildSlice (cs := [_]) rfl Try.underlying86 info93 rfl rfl rfl rfl H) ?_
                clear H
                rintro _ h21 ⟨rfl, hz_b, H⟩
                replace H := Sep.rowBlk (enc := eP) (xs := [vb]) eP_ok rfl (one_maxLen _) H
                have hv19_7 := H.rowV eP_ok 0 rfl
                have hr19_7 := H.rowR eP_ok 0 rfl
                replace H := H.drop
                have HF := H.front 7
                dsimp only [nthP, eraseP] at HF
                refine ol_x rfl rfl (x_append (enc := eP) rfl Try.underlying86 info93 rfl (by decide) eP_ok rfl rfl hv19_7 hr19_7 rfl (by simp only [List.length_cons, List.length_nil, maxLen]; omega) (by simp only [List.length_cons, List.length_nil, maxLen]; omega) HF) ?_
                clear H HF hv19_7 hr19_7
                rintro lv2 h22 ⟨hz_, lb2, lc2, H⟩
                replace H := H.ins 7
                dsimp only [insP] at H
                have hlv2 := H.rowV eP_ok 7 rfl
                refine ol_y rfl rfl (y_nilCheck rfl rfl) ?_
                refine ol_y rfl rfl (y_fieldAddr rfl fo88_2 rfl) ?_
                refine ol_x rfl rfl (by first | exact x_storeV rfl rfl rfl (by first | assumption | exact SlV.mk' _ _ _ _ | exact SlV.nil 0 0) sz86 H 0 rfl rfl rfl | exact x_storeV rfl rfl rfl (by first | assumption | exact SlV.mk' _ _ _ _ | exact SlV.nil 0 0) sz86 H 1 rfl rfl rfl | exact x_storeV rfl rfl rfl (by first | assumption | exact SlV.mk' _ _ _ _ | exact SlV.nil 0 0) sz86 H 2 rfl rfl rfl | exact x_storeV rfl rfl rfl (by first | assumption | exact SlV.mk' _ _ _ _ | exact SlV.nil 0 0) sz86 H 3 rfl rfl rfl | exact x_storeV rfl rfl rfl (by first | assumption | exact SlV.mk' _ _ _ _ | exact SlV.nil 0 0) sz86 H 4 rfl rfl rfl | exact x_storeV rfl rfl rfl (by first | assumption | exact SlV.mk' _ _ _ _ | exact SlV.nil 0 0) sz86 H 5 rfl rfl rfl) ?_
                clear H
                rintro _ h24 ⟨rfl, hz23, H⟩
                dsimp only [setP, List.set] at H
                refine ol_nil ?_
                refine thenX_n ?_
                refine cd_region ?_
                refine ol_y rfl rfl (y_move rfl rfl) ?_
                refine ol_y rfl rfl (y_move rfl rfl) ?_
                have hvHI := H.rowV eI_ok 4 rfl
                have hrHI := H.rowR eI_ok 4 rfl
                have hfl : ((lvRow W l j).filter fun c => !bitI (W - 1 - j) c).length + ((lvRow W l j).filter fun c => bitI (W - 1 - j) c).length = (lvRow W l j).length := filter_not_len (bitI (W - 1 - j)) (lvRow W l j)
                have HF := H.front 3
                dsimp only [nthP, eraseP] at HF
                refine ol_x rfl rfl (x_append (enc := eI) rfl Try.underlying22 info3 rfl (by decide) eI_ok rfl rfl hvHI hrHI rfl (by omega) (by simp only [maxLen]; omega) HF) ?_
                clear H HF hvHI hrHI
                rintro rv2 h25 ⟨hz20, rb2, rc2, H⟩
                refine ol_y rfl rfl (y_assign rfl rfl) ?_
                refine ol_nil ?_
                refine blockX_n ?_
                refine thenX_n ?_
                refine cd_region ?_
                refine ol_y rfl rfl (y_move rfl rfl) ?_
                refine ol_y rfl rfl (y_subi rfl rfl rfl (in64 (by omega) (by omega))) ?_
                refine ol_y rfl rfl (y_assign rfl rfl) ?_
                refine ol_nil ?_
                refine thenX_n ?_
                have hH : Sep h25 [blk hm0.size [.int .i64 l.length, .int .i64 W, lv2] 88, rowP eI 1 3 rv2 rb2 rc2 (lvRow W l (j + 1)), rowP eP 1 93 lv2 lb2 lc2 (vbs ++ [vb]), allV (fun j => rowBits (W - 1 - j) (lvRow W l j)) l.length (vbs ++ [vb]) (j + 1), HP.old h] := by
                  have H1 := Sep.sel H [5, 0, 5, 0, 4, 4]
                  dsimp only [selP, nthP, eraseP] at H1
                  have H2 := (Sep.join (H1.front 3 |>.front 4 |>.swap)).ins 3
                  dsimp only [nthP, eraseP, insP] at H2
                  have e1 : (vbs ++ [vb]).getD j 0 = vb := by simp [← hvl]
                  have e2 : allV (fun j => rowBits (W - 1 - j) (lvRow W l j)) l.length (vbs ++ [vb]) j = allV (fun j => rowBits (W - 1 - j) (lvRow W l j)) l.length vbs j := allV_congr j fun i hi => by simp [List.getElem?_append, show i < vbs.length by omega]
                  have e3 : allV (fun j => rowBits (W - 1 - j) (lvRow W l j)) l.length (vbs ++ [vb]) (j + 1) = (vecP vb (rowBits (W - 1 - j) (lvRow W l j)) l.length).sep (allV (fun j => rowBits (W - 1 - j) (lvRow W l j)) l.length vbs j) := by
                    rw [← e2, allV_succ, e1]
                  rw [e3]
                  exact H2
                exact ⟨⟨j + 1, rv2, rb2, rc2, lv2, lb2, lc2, vbs ++ [vb]⟩, ⟨rfl, rfl, vint (by simp; omega), trivial⟩, ⟨by (try dsimp only); omega, by simp [hvl], hH⟩, by (try dsimp only); omega⟩
          · (try replace hc1 := of_decide_eq_false hc1)
            refine cd_exit ?_
            refine thenX_e ?_
            refine thenX_e ?_
            refine blockX_hit ?_
            refine thenX_n ?_
            refine cd_seq ?_
            refine cd_region ?_
            refine ol_y rfl rfl (y_move rfl rfl) ?_
            refine ol_y rfl rfl (y_assign rfl rfl) ?_
            refine ol_y rfl rfl (y_assign rfl rfl) ?_
            refine ol_nil ?_
            refine thenX_n ?_
            refine cd_ret ?_
            refine ret2 Try.results17 rfl rfl ?_
            have hjW : j = W := by omega
            subst hjW
            have e0 := H.ext 4 rfl
            have hmb := H.obj 0 rfl
            have hlv1 := H.rowV eP_ok 2 rfl
            have hlr := H.rowR eP_ok 2 rfl
            refine ⟨hm0.size, vbs, rfl, e0, ⟨⟨_, lv, lb, lc, hmb, hlv1, hlr⟩, hvl, fun i vb hi => ?_, fun c hc => ?_, hl, hW1, hW22⟩⟩
            · have hil := (List.getElem?_eq_some_iff.1 hi).1
              have := allV_F j (H.front 3) i (by omega)
              rw [List.getD_eq_getElem?_getD, hi] at this
              exact this
            · have := hrow c hc
              have hp : ((2 : Int) ^ j) = ((2 ^ j : Nat) : Int) := by simp
              rw [hp]; omega


end Go.X
