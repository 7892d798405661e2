/- rmq.New, Least: printed walks. -/
import Derived.Test.YtclbncbolhmolaaC24
import Derived.Test.YtclbncbolhmolaaX12
namespace Go.X
open Go Go.Proofs
set_option linter.unusedVariables false
set_option linter.unusedSimpArgs false
theorem allR_nil {T : TypeId} : allR T [] = HP.emp := rfl
attribute [local irreducible] rowP HP.obj HP.old allR
/-- a table in memory -/
structure TabF (h : Heap) (tb : Nat) (l : List Int) : Prop where
  out : ∃ (T : TypeId) (lv rv : Value) (lb lc rb rc : Nat) (rs : List RowD), h[tb]? = some (.cells [lv, rv].toArray T (0, 0)) ∧ SlV lv lb 0 l.length lc ∧ Rd eI 1 h lb 0 l ∧ SlV rv rb 0 rs.length rc ∧ Rd eRD 1 h rb 0 rs ∧
    (∀ (k : Nat) (r : RowD), rs[k]? = some r → Rd eI 1 h r.b 0 r.xs ∧ RowOk l ((l.length + 31) / 32) (2 ^ k) r.xs) ∧ (∀ k, 2 ^ k ≤ (l.length + 31) / 32 → k < rs.length)
  n : l.length ≤ 4194304
theorem TabF.ext {h h' : Heap} {tb : Nat} {l : List Int} (H : TabF h tb l) (e : Ext h h') : TabF h' tb l := by
  obtain ⟨T, lv, rv, lb, lc, rb, rc, rs, h1, h2, h3, h4, h5, h6, h7⟩ := H.out
  exact ⟨⟨T, lv, rv, lb, lc, rb, rc, rs, e.get h1, h2, e.rd h3, h4, e.rd h5, fun k r hk => ⟨e.rd (h6 k r hk).1, (h6 k r hk).2⟩, h7⟩, H.n⟩
structure RG where
  k : Nat
  row : Value
  b : Nat
  c : Nat
  xs : List Int
  rs : List RowD
  rv : Value
  rb : Nat
  rc : Nat
structure NX where
  v : Value
  b : Nat
  c : Nat
  nx : List Int

theorem c_rmqNew {h : Heap} {v : Value} {b p c : Nat} {l : List Int} (hv : SlV v b p l.length c) (hr : Rd eI 1 h b p l) (hl : l.length ≤ 4194304) :
    FnT Try.prog 66 [v] h (fun v' h' => ∃ tb, v' = .tuple #[.pointer (some ⟨tb, 0, none⟩), .int .i64 0] ∧ Ext h h' ∧ ∀ h2, Kept h h' h2 → TabF h2 tb l) := by
  have H := Sep.start h
  obtain ⟨nb, hnb⟩ : ∃ nb, (l.length + 31) / 32 = nb := ⟨_, rfl⟩
  refine fn_enter Try.func66 rfl Try.ntmps66 rfl ?_
  refine cd_seq ?_
  refine cd_region ?_
  refine ol_y rfl rfl (y_assign rfl rfl) ?_
  refine ol_y rfl rfl (y_assign rfl rfl) ?_
  refine ol_nil ?_
  refine thenX_n ?_
  refine cd_seq ?_
  refine cd_seq ?_
  refine cd_region ?_
  refine ol_y rfl rfl (y_move rfl rfl) ?_
  refine ol_y rfl rfl (y_lenV rfl Try.underlying22 rfl (by first | assumption | exact SlV.mk' _ _ _ _)) ?_
  refine ol_y rfl rfl (y_gtr rfl rfl rfl) ?_
  refine ol_nil ?_
  refine thenX_n ?_
  refine cd_cond _ rfl (fun hc0 => ?_) (fun hc0 => ?_)
  · (try replace hc0 := of_decide_eq_true hc0)
    exfalso; omega
  · (try replace hc0 := of_decide_eq_false hc0)
    refine cd_skip ?_
    refine thenX_n ?_
    refine cd_seq ?_
    refine cd_region ?_
    refine ol_y rfl rfl (y_move rfl rfl) ?_
    refine ol_x rfl rfl (x_call rfl go49 rfl (c_CloneI H hv hr hl)) ?_
    clear H
    rintro lv h2 ⟨_, lb, lc, H⟩
    have hlv0 := H.rowV eI_ok 0 rfl
    obtain ⟨la, elv, hla1, hla2⟩ := hlv0.out
    subst elv
    refine ol_y rfl rfl (y_build (cs := [_, _]) rfl pl148 zero148 rfl) ?_
    refine ol_x rfl rfl (x_box rfl rfl rfl H) ?_
    clear H
    rintro v4 h3 ⟨hv4, hz33, H⟩
    obtain ⟨tb, htb⟩ : ∃ b, h2.size = b := ⟨_, rfl⟩
    rw [htb] at hv4 H
    subst hv4
    refine ol_y rfl rfl (y_assign rfl rfl) ?_
    refine ol_nil ?_
    refine thenX_n ?_
    refine cd_seq ?_
    refine cd_region ?_
    refine ol_y rfl rfl (y_assign rfl rfl) ?_
    refine ol_nil ?_
    refine thenX_n ?_
    refine cd_seq ?_
    refine cd_seq ?_
    refine cd_region ?_
    refine ol_y rfl rfl (y_assign rfl rfl) ?_
    refine ol_nil ?_
    refine thenX_n ?_
    refine cd_block ?_
    refine cd_loop (γ := Nat × Value × Nat × Nat) (fun g => [(0, v), (4, .pointer (some ⟨tb, 0, none⟩)), (5, g.2.1), (6, .int .i64 (32 * (g.1 : Int)))]) (fun g h' => g.1 ≤ nb ∧ Sep h' (rowP eI 1 3 g.2.1 g.2.2.1 g.2.2.2 (row1 l g.1) :: blk tb [(.slice la l.length lc), .slice none 0 0] 148 :: rowP eI 1 3 (.slice la l.length lc) lb lc l :: HP.old h :: [])) (fun g => nb - g.1) ((0, .slice none 0 0, 0, 0)) ?_ ?_ ?_
    · (repeat (first | exact trivial | refine ⟨rfl, ?_⟩))
    · exact ⟨Nat.zero_le _, H.rowNil eI 1 3 0⟩
    · skip
      rintro ⟨j, ov, ob, oc⟩ ρ h4 ⟨hj, H⟩
      (try dsimp only)
      dsimp only at hj H
      have htb1 := H.obj 1 rfl
      have hlv1 := H.rowV eI_ok 2 rfl
      have hlr1 := H.rowR eI_ok 2 rfl
      refine cd_seq ?_
      refine cd_seq ?_
      refine cd_region ?_
      refine ol_y rfl rfl (y_move rfl rfl) ?_
      refine ol_y rfl rfl (y_move rfl rfl) ?_
      refine ol_y rfl rfl (y_lenV rfl Try.underlying22 rfl (by first | assumption | exact SlV.mk' _ _ _ _)) ?_
      refine ol_y rfl rfl (y_lss rfl rfl rfl) ?_
      refine ol_nil ?_
      refine thenX_n ?_
      refine cd_cond _ rfl (fun hc1 => ?_) (fun hc1 => ?_)
      · (try replace hc1 := of_decide_eq_true hc1)
        refine cd_skip ?_
        refine thenX_n ?_
        refine cd_seq ?_
        refine cd_block ?_
        refine cd_region ?_
        refine ol_y rfl rfl (y_move rfl rfl) ?_
        refine ol_y rfl rfl (y_move rfl rfl) ?_
        refine ol_y rfl rfl (y_move rfl rfl) ?_
        refine ol_y rfl rfl (y_move rfl rfl) ?_
        refine ol_y rfl rfl (y_addi rfl rfl rfl (in64 (by omega) (by omega))) ?_
        refine ol_y rfl rfl (y_move rfl rfl) ?_
        refine ol_y rfl rfl (y_lenV rfl Try.underlying22 rfl (by first | assumption | exact SlV.mk' _ _ _ _)) ?_
        refine ol_y rfl rfl (y_min rfl rfl rfl) ?_
        refine ol_x rfl rfl (x_call rfl go94 rfl (c_scan htb1 hlv1 hlr1 (by omega) (by omega) hl)) ?_
        rintro _ _ ⟨rfl, rfl⟩
        refine ol_x rfl rfl (x_buildSlice (cs := [_]) rfl Try.underlying22 info3 rfl rfl rfl rfl H) ?_
        clear H
        rintro _ h6 ⟨rfl, hz_b, H⟩
        replace H := Sep.rowBlk (enc := eI) (xs := [(scanF l (32 * (j : Int)) (min (32 * (j : Int) + 32) l.length - 32 * (j : Int)).toNat)]) eI_ok rfl (one_maxLen _) H
        have hv8_10 := H.rowV eI_ok 0 rfl
        have hr8_10 := H.rowR eI_ok 0 rfl
        replace H := H.drop
        have HF := H.front 0
        dsimp only [nthP, eraseP] at HF
        refine ol_x rfl rfl (x_append (enc := eI) rfl Try.underlying22 info3 rfl (by decide) eI_ok rfl rfl hv8_10 hr8_10 rfl (by simp only [List.length_cons, List.length_nil, row1_len, maxLen]; omega) (by simp only [List.length_cons, List.length_nil, row1_len, maxLen]; omega) HF) ?_
        clear H HF hv8_10 hr8_10
        rintro ov2 h7 ⟨hz_, ob2, oc2, H⟩
        replace H := H.ins 0
        dsimp only [insP] at H
        have hov2 := H.rowV eI_ok 0 rfl
        refine ol_y rfl rfl (y_assign rfl rfl) ?_
        refine ol_nil ?_
        refine blockX_n ?_
        refine thenX_n ?_
        refine cd_region ?_
        refine ol_y rfl rfl (y_move rfl rfl) ?_
        refine ol_y rfl rfl (y_addi rfl rfl rfl (in64 (by omega) (by omega))) ?_
        refine ol_y rfl rfl (y_assign rfl rfl) ?_
        refine ol_nil ?_
        refine thenX_n ?_
        exact ⟨(j + 1, ov2, ob2, oc2), ⟨rfl, rfl, rfl, vint (by (try dsimp only); omega), trivial⟩, ⟨by (try dsimp only); omega, H⟩, by (try dsimp only); omega⟩
      · (try replace hc1 := of_decide_eq_false hc1)
        refine cd_exit ?_
        refine thenX_e ?_
        refine thenX_e ?_
        refine blockX_hit ?_
        refine thenX_n ?_
        refine cd_seq ?_
        refine cd_seq ?_
        refine cd_region ?_
        refine ol_y rfl rfl (y_assign rfl rfl) ?_
        refine ol_nil ?_
        refine thenX_n ?_
        refine cd_block ?_
        have ej : nb = j := by omega
        subst ej
        refine cd_loop (γ := RG) (fun g => [(4, .pointer (some ⟨tb, 0, none⟩)), (5, g.row), (7, .int .i64 ((2 ^ g.k : Nat) : Int))]) (fun g h' => g.rs.length = g.k ∧ g.k ≤ 131073 ∧ (∀ (i : Nat) (r : RowD), g.rs[i]? = some r → RowOk l nb (2 ^ i) r.xs) ∧ RowOk l nb (2 ^ g.k) g.xs ∧ 2 ^ g.k ≤ 262144 ∧ Sep h' (rowP eI 1 3 g.row g.b g.c g.xs :: blk tb [(.slice la l.length lc), g.rv] 148 :: rowP eI 1 3 (.slice la l.length lc) lb lc l :: rowP eRD 1 22 g.rv g.rb g.rc g.rs :: allR 3 g.rs :: HP.old h :: [])) (fun g => nb + 1 - 2 ^ g.k) (⟨0, ov, ob, oc, row1 l nb, [], .slice none 0 0, 0, 0⟩) ?_ ?_ ?_
        · (repeat (first | exact trivial | refine ⟨rfl, ?_⟩))
        · refine ⟨rfl, by (try dsimp only); omega, fun i r h => by simp at h, row1_ok l (by omega), by (try dsimp only); omega, ?_⟩
          have H1 := (H.rowNil eRD 1 22 0).ins 3
          dsimp only [insP] at H1
          have H2 := H1.empI.ins 4
          dsimp only [insP] at H2
          rw [allR_nil]
          exact H2
        · skip
          rintro ⟨k, rowv, rowb, rowc, xs, rs, rv, rb, rc⟩ ρ h8 ⟨hrk, hk1, hrs, hro, hw, H⟩
          (try dsimp only)
          dsimp only at hrk hk1 hrs hro hw H
          have htb1 := H.obj 1 rfl
          have hrow := H.rowV eI_ok 0 rfl
          have hlv1 := H.rowV eI_ok 2 rfl
          have hp0 := Nat.two_pow_pos k
          have hxl := hro.len
          have hrv1 := H.rowV eRD_ok 3 rfl
          refine cd_seq ?_
          refine cd_seq ?_
          refine cd_region ?_
          refine ol_y rfl rfl (y_move rfl rfl) ?_
          refine ol_y rfl rfl (y_lenV rfl Try.underlying22 rfl (by first | assumption | exact SlV.mk' _ _ _ _)) ?_
          refine ol_y rfl rfl (y_gtr rfl rfl rfl) ?_
          refine ol_nil ?_
          refine thenX_n ?_
          refine cd_cond _ rfl (fun hc2 => ?_) (fun hc2 => ?_)
          · (try replace hc2 := of_decide_eq_true hc2)
            have hrv := hrow.pos (by omega)
            subst hrv
            refine cd_skip ?_
            refine thenX_n ?_
            refine cd_seq ?_
            refine cd_block ?_
            refine cd_seq ?_
            refine cd_region ?_
            refine ol_y rfl rfl (y_move rfl rfl) ?_
            refine ol_y rfl rfl (y_move rfl rfl) ?_
            refine ol_y rfl rfl (y_nilCheck rfl rfl) ?_
            refine ol_y rfl rfl (y_fieldAddr rfl fo148_1 rfl) ?_
            refine ol_y rfl rfl (y_load rfl rfl (fun _ e => ldeq e (ld1 scl146 (cellH_blk (by assumption) rfl)))) ?_
            refine ol_y rfl rfl (y_move rfl rfl) ?_
            refine ol_x rfl rfl (x_buildSlice (cs := [_]) rfl Try.underlying146 info22 rfl rfl rfl rfl H) ?_
            clear H
            rintro _ h9 ⟨rfl, hz_b, H⟩
            replace H := Sep.rowBlk (enc := eRD) (xs := [(⟨rowb, rowc, xs⟩ : RowD)]) eRD_ok rfl (one_maxLen _) H
            have hv12_7 := H.rowV eRD_ok 0 rfl
            have hr12_7 := H.rowR eRD_ok 0 rfl
            replace H := H.drop
            have HF := H.front 3
            dsimp only [nthP, eraseP] at HF
            refine ol_x rfl rfl (x_append (enc := eRD) rfl Try.underlying146 info22 rfl (by decide) eRD_ok rfl rfl hv12_7 hr12_7 rfl (by simp only [List.length_cons, List.length_nil, maxLen]; omega) (by simp only [List.length_cons, List.length_nil, maxLen]; omega) HF) ?_
            clear H HF hv12_7 hr12_7
            rintro rv2 h10 ⟨hz_, rb2, rc2, H⟩
            replace H := H.ins 3
            dsimp only [insP] at H
            have hrv2 := H.rowV eRD_ok 3 rfl
            refine ol_y rfl rfl (y_nilCheck rfl rfl) ?_
            refine ol_y rfl rfl (y_fieldAddr rfl fo148_1 rfl) ?_
            refine ol_x rfl rfl (by first | exact x_storeV rfl rfl rfl (by first | assumption | exact SlV.mk' _ _ _ _ | exact SlV.nil 0 0) sz146 H 0 rfl rfl rfl | exact x_storeV rfl rfl rfl (by first | assumption | exact SlV.mk' _ _ _ _ | exact SlV.nil 0 0) sz146 H 1 rfl rfl rfl | exact x_storeV rfl rfl rfl (by first | assumption | exact SlV.mk' _ _ _ _ | exact SlV.nil 0 0) sz146 H 2 rfl rfl rfl | exact x_storeV rfl rfl rfl (by first | assumption | exact SlV.mk' _ _ _ _ | exact SlV.nil 0 0) sz146 H 3 rfl rfl rfl | exact x_storeV rfl rfl rfl (by first | assumption | exact SlV.mk' _ _ _ _ | exact SlV.nil 0 0) sz146 H 4 rfl rfl rfl | exact x_storeV rfl rfl rfl (by first | assumption | exact SlV.mk' _ _ _ _ | exact SlV.nil 0 0) sz146 H 5 rfl rfl rfl) ?_
            clear H
            rintro _ h12 ⟨rfl, hz11, H⟩
            dsimp only [setP, List.set] at H
            have htb2 := H.obj 1 rfl
            replace H := H.front 4
            dsimp only [nthP, eraseP] at H
            replace H := (allR_snoc (r := (⟨rowb, rowc, xs⟩ : RowD)) H.swap).ins 3
            dsimp only [insP] at H
            have hlen2 : (rs ++ [(⟨rowb, rowc, xs⟩ : RowD)]).length = rs.length + 1 := by simp
            refine ol_nil ?_
            refine thenX_n ?_
            refine cd_seq ?_
            refine cd_region ?_
            refine ol_y rfl rfl (y_assign rfl rfl) ?_
            refine ol_nil ?_
            refine thenX_n ?_
            refine cd_seq ?_
            refine cd_seq ?_
            refine cd_region ?_
            refine ol_y rfl rfl (y_assign rfl rfl) ?_
            refine ol_nil ?_
            refine thenX_n ?_
            refine cd_block ?_
            refine cd_loop (γ := NX) (fun g => [(4, .pointer (some ⟨tb, 0, none⟩)), (5, .slice (some ⟨rowb, 0, none⟩) xs.length rowc), (7, .int .i64 ((2 ^ k : Nat) : Int)), (8, g.v), (9, .int .i64 (g.nx.length : Int))]) (fun g h' => NextOk l (2 ^ k) g.nx ∧ (g.nx.length + 2 ^ k ≤ xs.length ∨ g.nx.length = 0) ∧ Sep h' (rowP eI 1 3 g.v g.b g.c g.nx :: blk tb [(.slice la l.length lc), rv2] 148 :: rowP eI 1 3 (.slice la l.length lc) lb lc l :: rowP eRD 1 22 rv2 rb2 rc2 (rs ++ [(⟨rowb, rowc, xs⟩ : RowD)]) :: allR 3 (rs ++ [(⟨rowb, rowc, xs⟩ : RowD)]) :: HP.old h :: [])) (fun g => xs.length - g.nx.length) (⟨.slice none 0 0, 0, 0, []⟩) ?_ ?_ ?_
            · (repeat (first | exact trivial | refine ⟨rfl, ?_⟩))
            · exact ⟨NextOk.nil l _, .inr rfl, H.rowNil eI 1 3 0⟩
            · skip
              rintro ⟨nv, nb_, nc, nx⟩ ρ h13 ⟨hnx, hnl, H⟩
              (try dsimp only)
              dsimp only at hnx hnl H
              have htb3 := H.obj 1 rfl
              have hlv3 := H.rowV eI_ok 2 rfl
              have hlr3 := H.rowR eI_ok 2 rfl
              have hFr := H.front 4
              dsimp only [nthP, eraseP] at hFr
              have hxr : Rd eI 1 h13 rowb 0 xs := allR_F hFr rs.length (⟨rowb, rowc, xs⟩ : RowD) (by simp)
              have hxv := SlV.mk' rowb 0 xs.length rowc
              refine cd_seq ?_
              refine cd_seq ?_
              refine cd_region ?_
              refine ol_y rfl rfl (y_move rfl rfl) ?_
              refine ol_y rfl rfl (y_move rfl rfl) ?_
              refine ol_y rfl rfl (y_addi rfl rfl rfl (in64 (by omega) (by omega))) ?_
              refine ol_y rfl rfl (y_move rfl rfl) ?_
              refine ol_y rfl rfl (y_lenV rfl Try.underlying22 rfl (by first | assumption | exact SlV.mk' _ _ _ _)) ?_
              refine ol_y rfl rfl (y_lss rfl rfl rfl) ?_
              refine ol_nil ?_
              refine thenX_n ?_
              refine cd_cond _ rfl (fun hc3 => ?_) (fun hc3 => ?_)
              · (try replace hc3 := of_decide_eq_true hc3)
                have hb1 := hro.rng (i := nx.length) (by omega)
                have hb2 := hro.rng (i := nx.length + 2 ^ k) (by omega)
                have hcast : ((nx.length + 2 ^ k : Nat) : Int) = (nx.length : Int) + ((2 ^ k : Nat) : Int) := by omega
                rw [hcast] at hb2
                have hbest := row_next hro (i := nx.length) (by omega)
                refine cd_skip ?_
                refine thenX_n ?_
                refine cd_seq ?_
                refine cd_block ?_
                refine cd_draw (some 13) (fun x => x = h13) [(0, 0), (1, 0), (2, 0), (3, 0), (4, 0), (5, 1), (6, 0), (7, 0), (8, 0), (9, 0), (10, 0), (11, 1), (12, 2), (13, 2), (14, 3), (15, 0)] mixed (by kernel_rfl) (by kernel_rfl) (by kernel_rfl) ?_ ?_
                · exact rfl
                refine hs_p rfl rfl rfl (y_move rfl rfl) ?_
                refine hs_p rfl rfl rfl (y_move rfl rfl) ?_
                refine hs_p rfl rfl rfl (y_move rfl rfl) ?_
                refine hs_p rfl rfl rfl (y_move rfl rfl) ?_
                refine hs_p rfl rfl rfl (y_indexV rfl Try.underlying22 sz3 rfl (by first | assumption | exact SlV.mk' _ _ _ _) rfl (by omega) (by omega)) ?_
                refine hs_y rfl rfl rfl (y_load rfl rfl (fun _ e => ldeq e (ld_row scl3 (by assumption) (by omega) (by omega)))) ?_
                refine hs_p rfl rfl rfl (y_move rfl rfl) ?_
                refine hs_p rfl rfl rfl (y_move rfl rfl) ?_
                refine hs_p rfl rfl rfl (y_move rfl rfl) ?_
                refine hs_p rfl rfl rfl (y_addi rfl rfl rfl (in64 (by omega) (by omega))) ?_
                refine hs_p rfl rfl rfl (y_indexV rfl Try.underlying22 sz3 rfl (by first | assumption | exact SlV.mk' _ _ _ _) rfl (by omega) (by omega)) ?_
                refine hs_y rfl rfl rfl (y_load rfl rfl (fun _ e => ldeq e (ld_row scl3 (by assumption) (by omega) (by omega)))) ?_
                refine hs_x rfl rfl rfl (x_call rfl go95 rfl (c_better htb3 hlv3 hlr3 ⟨by omega, by omega⟩ ⟨by omega, by omega⟩)) ?_
                rintro _ _ ⟨rfl, rfl⟩
                refine ⟨rfl, ?_⟩
                refine hs_xk rfl rfl rfl (x_buildSlice (cs := [_]) rfl Try.underlying22 info3 rfl rfl rfl rfl H) rfl ?_
                clear H
                rintro _ h15 ⟨rfl, hz_b, H⟩
                replace H := Sep.rowBlk (enc := eI) (xs := [(betterF l (gt xs (nx.length : Int)) (gt xs ((nx.length : Int) + ((2 ^ k : Nat) : Int))))]) eI_ok rfl (one_maxLen _) H
                have hv17_14 := H.rowV eI_ok 0 rfl
                have hr17_14 := H.rowR eI_ok 0 rfl
                replace H := H.drop
                have HF := H.front 0
                dsimp only [nthP, eraseP] at HF
                refine hs_xa rfl rfl rfl (x_append (enc := eI) rfl Try.underlying22 info3 rfl (by decide) eI_ok rfl rfl hv17_14 hr17_14 rfl (by simp only [List.length_cons, List.length_nil, maxLen]; omega) (by simp only [List.length_cons, List.length_nil, maxLen]; omega) HF) ?_
                clear H HF hv17_14 hr17_14
                rintro nv2 h16 ⟨hz_, nb2, nc2, H⟩
                replace H := H.ins 0
                dsimp only [insP] at H
                have hnv2 := H.rowV eI_ok 0 rfl
                refine hs_p rfl rfl rfl (y_assign rfl rfl) ?_
                refine hs_nil ?_
                refine blockX_n ?_
                refine thenX_n ?_
                refine cd_region ?_
                refine ol_y rfl rfl (y_move rfl rfl) ?_
                refine ol_y rfl rfl (y_addi rfl rfl rfl (in64 (by omega) (by omega))) ?_
                refine ol_y rfl rfl (y_assign rfl rfl) ?_
                refine ol_nil ?_
                refine thenX_n ?_
                exact ⟨⟨nv2, nb2, nc2, nx ++ [(betterF l (gt xs (nx.length : Int)) (gt xs ((nx.length : Int) + ((2 ^ k : Nat) : Int))))]⟩, ⟨rfl, rfl, rfl, rfl, vint (by simp), trivial⟩, ⟨hnx.snoc hbest, .inl (by simp only [List.length_append, List.length_singleton]; omega), H⟩, by simp only [List.length_append, List.length_singleton]; omega⟩
              · (try replace hc3 := of_decide_eq_false hc3)
                refine cd_exit ?_
                refine thenX_e ?_
                refine thenX_e ?_
                refine blockX_hit ?_
                refine thenX_n ?_
                refine cd_region ?_
                refine ol_y rfl rfl (y_move rfl rfl) ?_
                refine ol_y rfl rfl (y_assign rfl rfl) ?_
                refine ol_nil ?_
                refine blockX_n ?_
                refine thenX_n ?_
                refine cd_region ?_
                refine ol_y rfl rfl (y_move rfl rfl) ?_
                refine ol_y rfl rfl (y_muli rfl rfl rfl (in64 (by omega) (by omega))) ?_
                refine ol_y rfl rfl (y_assign rfl rfl) ?_
                refine ol_nil ?_
                refine thenX_n ?_
                have e2 : 2 ^ (k + 1) = 2 ^ k + 2 ^ k := by rw [Nat.pow_succ]; omega
                refine ⟨⟨k + 1, nv, nb_, nc, nx, rs ++ [(⟨rowb, rowc, xs⟩ : RowD)], rv2, rb2, rc2⟩, ⟨rfl, rfl, vint (by (try dsimp only); rw [e2]; omega), trivial⟩, ⟨by (try dsimp only); omega, ?_, fun i r hi => ?_, ⟨?_, ?_⟩, ?_, H⟩, ?_⟩
                · (try dsimp only)
                  have := Nat.lt_two_pow_self (n := k); omega
                · (try dsimp only at hi)
                  rw [List.getElem?_append] at hi
                  split at hi
                  · exact hrs i r hi
                  · rename_i hge
                    have hi1 := (List.getElem?_eq_some_iff.1 hi).1
                    simp only [List.length_singleton] at hi1
                    have : i = k := by omega
                    subst this
                    rw [hrk, Nat.sub_self] at hi
                    simp at hi
                    rw [← hi]; exact hro
                · (try dsimp only)
                  rw [e2]; omega
                · (try dsimp only)
                  rw [e2]; exact hnx.at_
                · (try dsimp only)
                  rw [e2]; omega
                · (try dsimp only)
                  rw [e2]; omega
          · (try replace hc2 := of_decide_eq_false hc2)
            refine cd_exit ?_
            refine thenX_e ?_
            refine thenX_e ?_
            refine blockX_hit ?_
            refine thenX_n ?_
            refine cd_seq ?_
            refine cd_region ?_
            refine ol_y rfl rfl (y_move rfl rfl) ?_
            refine ol_y rfl rfl (y_assign rfl rfl) ?_
            refine ol_y rfl rfl (y_assign rfl rfl) ?_
            refine ol_nil ?_
            refine thenX_n ?_
            refine cd_ret ?_
            refine ret2 Try.results66 rfl rfl ?_
            have ex : xs = [] := List.eq_nil_of_length_eq_zero (by omega)
            refine ⟨tb, rfl, H.ext 5 rfl, fun h2 hk2 => ?_⟩
            replace H := H.front 5
            dsimp only [nthP, eraseP] at H
            replace H := H.moved hk2
            have hF := H.front 4
            dsimp only [nthP, eraseP] at hF
            refine ⟨⟨_, (.slice la l.length lc), rv, lb, lc, rb, rc, rs, H.obj 1 rfl, hlv1, H.rowR eI_ok 2 rfl, hrv1, H.rowR eRD_ok 3 rfl, fun i r hi => ⟨allR_F hF i r hi, by rw [hnb]; exact hrs i r hi⟩, fun i hi => ?_⟩, hl⟩
            rw [hnb] at hi
            rw [ex, List.length_nil] at hxl
            rw [hrk]
            apply Classical.byContradiction
            intro hge
            have := Nat.pow_le_pow_right (show 0 < 2 by decide) (show k ≤ i by omega)
            omega


theorem bl_spec {d : Nat} (h : 0 < d) : ∃ k, bl d = k + 1 ∧ 2 ^ k ≤ d ∧ d < 2 ^ (k + 1) := by
  refine ⟨d.log2, by unfold bl; rw [if_neg (by omega)], ?_, ?_⟩
  · exact (Nat.le_log2 (by omega)).1 (Nat.le_refl _)
  · exact (Nat.log2_lt (by omega)).1 (by omega)
theorem pow_shl {k : Nat} (hk : k ≤ 22) : IntKind.i64.wrap (1 * 2 ^ min (k : Int).toNat IntKind.i64.bits) = ((2 ^ k : Nat) : Int) := by
  have e : min (k : Int).toNat IntKind.i64.bits = k := by simp only [IntKind.bits, Int.toNat_natCast]; omega
  have hp : 2 ^ k ≤ 2 ^ 22 := Nat.pow_le_pow_right (by decide) hk
  have h0 := Nat.two_pow_pos k
  have e2 : (1 : Int) * 2 ^ k = ((2 ^ k : Nat) : Int) := by simp
  rw [e, e2, wrap_i64 (by omega) (by omega)]

theorem c_BitsLen {h : Heap} {x : Nat} (hx : x < 4194304) :
    FnT Try.prog 102 [.int .u64 x] h (fun v h' => v = .int .i64 (bl x) ∧ h = h') := by
  refine fn_enter Try.func102 rfl Try.ntmps102 rfl ?_
  refine cd_seq ?_
  refine cd_region ?_
  refine ol_y rfl rfl (y_assign rfl rfl) ?_
  refine ol_nil ?_
  refine thenX_n ?_
  refine cd_seq ?_
  refine cd_cond _ rfl (fun hc0 => ?_) (fun hc0 => ?_)
  · (try replace hc0 := of_decide_eq_true hc0)
    cases hc0
  · (try replace hc0 := of_decide_eq_false hc0)
    refine cd_skip ?_
    refine thenX_n ?_
    refine cd_seq ?_
    refine cd_region ?_
    refine ol_y rfl rfl (y_move rfl rfl) ?_
    refine ol_x rfl rfl (x_call rfl go81 rfl (c_Len64 hx)) ?_
    rintro _ _ ⟨rfl, rfl⟩
    refine ol_y rfl rfl (y_assign rfl rfl) ?_
    refine ol_nil ?_
    refine thenX_n ?_
    refine cd_ret ?_
    refine ret1 Try.results102 rfl ?_
    exact ⟨rfl, rfl⟩


theorem c_Least {h : Heap} {tb : Nat} {l : List Int} {a b_ : Int} (ht : TabF h tb l) :
    FnT Try.prog 93 [.pointer (some ⟨tb, 0, none⟩), .int .i64 a, .int .i64 b_] h (fun v h' => ∃ r, v = .int .i64 r ∧ h = h' ∧ LeastOn l (fun i => max a 0 ≤ i ∧ i < min b_ l.length) r) := by
  obtain ⟨T, lv, rv, lb, lc, rb, rc, rs, htb, hlv, hlr, hrv, hrr, hrs, hrn⟩ := ht.out
  have hn := ht.n
  refine fn_enter Try.func93 rfl Try.ntmps93 rfl ?_
  refine cd_seq ?_
  refine cd_region ?_
  refine ol_y rfl rfl (y_assign rfl rfl) ?_
  refine ol_nil ?_
  refine thenX_n ?_
  refine cd_seq ?_
  refine cd_region ?_
  refine ol_y rfl rfl (y_move rfl rfl) ?_
  refine ol_y rfl rfl (y_max rfl rfl rfl) ?_
  refine ol_y rfl rfl (y_move rfl rfl) ?_
  refine ol_y rfl rfl (y_move rfl rfl) ?_
  refine ol_x rfl rfl (x_call rfl go107 rfl (c_TabLen htb hlv hlr)) ?_
  rintro _ _ ⟨rfl, rfl⟩
  refine ol_y rfl rfl (y_min rfl rfl rfl) ?_
  refine ol_y rfl rfl (y_assign rfl rfl) ?_
  refine ol_y rfl rfl (y_assign rfl rfl) ?_
  refine ol_nil ?_
  refine thenX_n ?_
  refine cd_seq ?_
  refine cd_seq ?_
  refine cd_region ?_
  refine ol_y rfl rfl (y_move rfl rfl) ?_
  refine ol_y rfl rfl (y_move rfl rfl) ?_
  refine ol_y rfl rfl (y_geq rfl rfl rfl) ?_
  refine ol_nil ?_
  refine thenX_n ?_
  refine cd_cond _ rfl (fun hc0 => ?_) (fun hc0 => ?_)
  · (try replace hc0 := of_decide_eq_true hc0)
    refine cd_seq ?_
    refine cd_region ?_
    refine ol_y rfl rfl (y_assign rfl rfl) ?_
    refine ol_nil ?_
    refine thenX_n ?_
    refine cd_ret ?_
    refine thenX_r ?_
    refine ret1 Try.results93 rfl ?_
    exact ⟨_, rfl, rfl, .inl ⟨rfl, fun i hi => by omega⟩⟩
  · (try replace hc0 := of_decide_eq_false hc0)
    refine cd_skip ?_
    refine thenX_n ?_
    refine cd_seq ?_
    refine cd_region ?_
    refine ol_y rfl rfl (y_move rfl rfl) ?_
    refine ol_y rfl rfl (y_addi rfl rfl rfl (in64 (by omega) (by omega))) ?_
    refine ol_y rfl rfl (y_subi rfl rfl rfl (in64 (by omega) (by omega))) ?_
    refine ol_y rfl rfl (y_quoi rfl rfl rfl (in64 (by omega) (by omega)) (by omega) (by omega)) ?_
    refine ol_y rfl rfl (y_move rfl rfl) ?_
    refine ol_y rfl rfl (y_quoi rfl rfl rfl (in64 (by omega) (by omega)) (by omega) (by omega)) ?_
    refine ol_y rfl rfl (y_assign rfl rfl) ?_
    refine ol_y rfl rfl (y_assign rfl rfl) ?_
    refine ol_nil ?_
    refine thenX_n ?_
    refine cd_seq ?_
    refine cd_seq ?_
    refine cd_region ?_
    refine ol_y rfl rfl (y_move rfl rfl) ?_
    refine ol_y rfl rfl (y_move rfl rfl) ?_
    refine ol_y rfl rfl (y_geq rfl rfl rfl) ?_
    refine ol_nil ?_
    refine thenX_n ?_
    refine cd_cond _ rfl (fun hc1 => ?_) (fun hc1 => ?_)
    · (try replace hc1 := of_decide_eq_true hc1)
      refine cd_seq ?_
      refine cd_region ?_
      refine ol_y rfl rfl (y_move rfl rfl) ?_
      refine ol_y rfl rfl (y_move rfl rfl) ?_
      refine ol_y rfl rfl (y_move rfl rfl) ?_
      refine ol_x rfl rfl (x_call rfl go94 rfl (c_scan htb hlv hlr (by omega) (by omega) hn)) ?_
      rintro _ _ ⟨rfl, rfl⟩
      refine ol_y rfl rfl (y_assign rfl rfl) ?_
      refine ol_nil ?_
      refine thenX_n ?_
      refine cd_ret ?_
      refine thenX_r ?_
      refine ret1 Try.results93 rfl ?_
      exact ⟨_, rfl, rfl, (scan_least l (a := max a 0) (by omega) (min b_ (l.length : Int) - max a 0).toNat).congr fun i => by omega⟩
    · (try replace hc1 := of_decide_eq_false hc1)
      obtain ⟨d, hd⟩ := Int.eq_ofNat_of_zero_le (show 0 ≤ (min b_ (l.length : Int) / 32) - ((max a 0 + 32 - 1) / 32) by omega)
      obtain ⟨x, hx⟩ := Int.eq_ofNat_of_zero_le (show 0 ≤ ((max a 0 + 32 - 1) / 32) by omega)
      obtain ⟨k, hbk, hk1, hk2⟩ := bl_spec (d := d) (by omega)
      have hk22 : k ≤ 22 := by
        apply Classical.byContradiction
        intro hge
        have := Nat.pow_le_pow_right (show 0 < 2 by decide) (show 23 ≤ k by omega)
        omega
      have e2 : 2 ^ (k + 1) = 2 ^ k + 2 ^ k := by rw [Nat.pow_succ]; omega
      have hkr := hrn k (by omega)
      have hgr := gt_get (xs := rs) (i := (k : Int)) (by omega) (by omega)
      rw [Int.toNat_natCast] at hgr
      obtain ⟨hrx, hro⟩ := hrs k _ hgr
      have hrl := hro.len
      have hLm1 := hro.at_ x (by omega)
      obtain ⟨z, hz⟩ := Int.eq_ofNat_of_zero_le (show 0 ≤ (min b_ (l.length : Int) / 32) - ((2 ^ k : Nat) : Int) by omega)
      have hLm2 := hro.at_ z (by omega)
      rw [← hx] at hLm1
      rw [← hz] at hLm2
      have hL1 := scan_least l (a := max a 0) (by omega) (((max a 0 + 32 - 1) / 32) * 32 - max a 0).toNat
      have hL4 := scan_least l (a := (min b_ (l.length : Int) / 32) * 32) (by omega) (min b_ (l.length : Int) - (min b_ (l.length : Int) / 32) * 32).toNat
      have hR1 := hL1.rng2 (n := l.length) fun j hj => by omega
      have hRm1 := hLm1.rng2 (n := l.length) fun j hj => by unfold blkS at hj; omega
      have hRm2 := hLm2.rng2 (n := l.length) fun j hj => by unfold blkS at hj; omega
      have hR4 := hL4.rng2 (n := l.length) fun j hj => by omega
      have hL2 := better_least hL1 hLm1
      have hR2 := hL2.rng2 (n := l.length) fun j hj => by unfold blkS at hj; omega
      have hL3 := better_least hL2 hLm2
      have hR3 := hL3.rng2 (n := l.length) fun j hj => by unfold blkS at hj; omega
      replace hL4 := better_least hL3 hL4
      refine cd_skip ?_
      refine thenX_n ?_
      refine cd_seq ?_
      refine cd_region ?_
      refine ol_y rfl rfl (y_move rfl rfl) ?_
      refine ol_y rfl rfl (y_move rfl rfl) ?_
      refine ol_y rfl rfl (y_move rfl rfl) ?_
      refine ol_y rfl rfl (y_muli rfl rfl rfl (in64 (by omega) (by omega))) ?_
      refine ol_x rfl rfl (x_call rfl go94 rfl (c_scan htb hlv hlr (by omega) (by omega) hn)) ?_
      rintro _ _ ⟨rfl, rfl⟩
      refine ol_y rfl rfl (y_assign rfl rfl) ?_
      refine ol_nil ?_
      refine thenX_n ?_
      refine cd_seq ?_
      refine cd_region ?_
      refine ol_y rfl rfl (y_move rfl rfl) ?_
      refine ol_y rfl rfl (y_move rfl rfl) ?_
      refine ol_y rfl rfl (y_subi rfl rfl rfl (in64 (by omega) (by omega))) ?_
      refine ol_y rfl rfl (Yl.eq (y_convw rfl ⟨_, Try.underlying3⟩ Try.underlying36 rfl (inu64 (by omega) (by omega))) (vint hd)) ?_
      refine ol_x rfl rfl (x_call rfl go102 rfl (c_BitsLen (by omega))) ?_
      rintro _ _ ⟨rfl, rfl⟩
      refine ol_y rfl rfl (Yl.eq (y_subi rfl rfl rfl (in64 (by omega) (by omega))) (vint (show _ = (k : Int) by omega))) ?_
      refine ol_y rfl rfl (y_assign rfl rfl) ?_
      refine ol_nil ?_
      refine thenX_n ?_
      refine cd_seq ?_
      refine cd_region ?_
      refine ol_y rfl rfl (y_move rfl rfl) ?_
      refine ol_y rfl rfl (y_move rfl rfl) ?_
      refine ol_y rfl rfl (y_move rfl rfl) ?_
      refine ol_y rfl rfl (y_nilCheck rfl rfl) ?_
      refine ol_y rfl rfl (y_fieldAddr rfl fo148_1 rfl) ?_
      refine ol_y rfl rfl (y_load rfl rfl (fun _ e => ldeq e (ld1 scl146 (cellH_blk (by assumption) rfl)))) ?_
      refine ol_y rfl rfl (y_move rfl rfl) ?_
      refine ol_y rfl rfl (y_indexV rfl Try.underlying146 sz22 rfl (by first | assumption | exact SlV.mk' _ _ _ _) rfl (by omega) (by omega)) ?_
      refine ol_y rfl rfl (y_load rfl rfl (fun _ e => ldeq e (ld_row (f := RowD.val) (xs := rs) scl22 hrr (by omega) (by omega)))) ?_
      refine ol_y rfl rfl (y_move rfl rfl) ?_
      refine ol_y rfl rfl (y_indexV rfl Try.underlying22 sz3 rfl (by first | assumption | exact SlV.mk' _ _ _ _) rfl (by omega) (by omega)) ?_
      refine ol_y rfl rfl (y_load rfl rfl (fun _ e => ldeq e (ld_row scl3 (by assumption) (by omega) (by omega)))) ?_
      refine ol_x rfl rfl (x_call rfl go95 rfl (c_better htb hlv hlr (by omega) (by omega))) ?_
      rintro _ _ ⟨rfl, rfl⟩
      refine ol_y rfl rfl (y_assign rfl rfl) ?_
      refine ol_nil ?_
      refine thenX_n ?_
      refine cd_seq ?_
      refine cd_draw (none) (fun x => x = h) [(0, 0), (1, 0), (2, 0), (3, 0), (4, 0), (5, 1), (6, 0), (7, 0), (8, 1), (9, 0), (10, 0), (11, 0), (12, 0), (13, 0), (14, 1), (15, 2), (16, 0)] mixed (by kernel_rfl) (by kernel_rfl) (by kernel_rfl) ?_ ?_
      · exact rfl
      refine hs_p rfl rfl rfl (y_move rfl rfl) ?_
      refine hs_p rfl rfl rfl (y_move rfl rfl) ?_
      refine hs_p rfl rfl rfl (y_move rfl rfl) ?_
      refine hs_p rfl rfl rfl (y_nilCheck rfl rfl) ?_
      refine hs_p rfl rfl rfl (y_fieldAddr rfl fo148_1 rfl) ?_
      refine hs_y rfl rfl rfl (y_load rfl rfl (fun _ e => ldeq e (ld1 scl146 (cellH_blk (by assumption) rfl)))) ?_
      refine hs_p rfl rfl rfl (y_move rfl rfl) ?_
      refine hs_p rfl rfl rfl (y_indexV rfl Try.underlying146 sz22 rfl (by first | assumption | exact SlV.mk' _ _ _ _) rfl (by omega) (by omega)) ?_
      refine hs_y rfl rfl rfl (y_load rfl rfl (fun _ e => ldeq e (ld_row (f := RowD.val) (xs := rs) scl22 hrr (by omega) (by omega)))) ?_
      refine hs_p rfl rfl rfl (y_move rfl rfl) ?_
      refine hs_p rfl rfl rfl (y_move rfl rfl) ?_
      refine hs_p rfl rfl rfl (Yl.eq (y_shl rfl rfl rfl (by omega)) (vint (pow_shl hk22))) ?_
      refine hs_p rfl rfl rfl (y_subi rfl rfl rfl (in64 (by omega) (by omega))) ?_
      refine hs_p rfl rfl rfl (y_indexV rfl Try.underlying22 sz3 rfl (by first | assumption | exact SlV.mk' _ _ _ _) rfl (by omega) (by omega)) ?_
      refine hs_y rfl rfl rfl (y_load rfl rfl (fun _ e => ldeq e (ld_row scl3 (by assumption) (by omega) (by omega)))) ?_
      refine hs_x rfl rfl rfl (x_call rfl go95 rfl (c_better htb hlv hlr (by omega) (by omega))) ?_
      rintro _ _ ⟨rfl, rfl⟩
      refine ⟨rfl, ?_⟩
      refine hs_p rfl rfl rfl (y_assign rfl rfl) ?_
      refine hs_nil ?_
      refine thenX_n ?_
      refine cd_seq ?_
      refine cd_region ?_
      refine ol_y rfl rfl (y_move rfl rfl) ?_
      refine ol_y rfl rfl (y_move rfl rfl) ?_
      refine ol_y rfl rfl (y_move rfl rfl) ?_
      refine ol_y rfl rfl (y_move rfl rfl) ?_
      refine ol_y rfl rfl (y_muli rfl rfl rfl (in64 (by omega) (by omega))) ?_
      refine ol_y rfl rfl (y_move rfl rfl) ?_
      refine ol_x rfl rfl (x_call rfl go94 rfl (c_scan htb hlv hlr (by omega) (by omega) hn)) ?_
      rintro _ _ ⟨rfl, rfl⟩
      refine ol_x rfl rfl (x_call rfl go95 rfl (c_better htb hlv hlr (by omega) (by omega))) ?_
      rintro _ _ ⟨rfl, rfl⟩
      refine ol_y rfl rfl (y_assign rfl rfl) ?_
      refine ol_nil ?_
      refine thenX_n ?_
      refine cd_ret ?_
      refine ret1 Try.results93 rfl ?_
      refine ⟨_, rfl, rfl, hL4.congr fun i => ?_⟩
      unfold blkS
      omega


end Go.X
