/- wave.Matrix.Len, Levels; best.New: printed walks. -/
import Derived.Test.YtclbncbolhmolaaC8
import Derived.Test.YtclbncbolhmolaaM6
namespace Go.X
open Go Go.Proofs
set_option linter.unusedVariables false
set_option linter.unusedSimpArgs false
attribute [local irreducible] rowP HP.obj HP.old lessP
/-- a matrix, or none -/
def MatV (h : Heap) (po : Option Addr) (l : List Int) (W : Nat) (vbs : List Nat) : Prop := (po = none ∧ l = []) ∨ ∃ mb, po = some ⟨mb, 0, none⟩ ∧ MatF h mb l W vbs
theorem MatV.ext {h h' : Heap} {po : Option Addr} {l : List Int} {W : Nat} {vbs : List Nat} (H : MatV h po l W vbs) (e : Ext h h') : MatV h' po l W vbs := H.imp id fun ⟨mb, e1, h1⟩ => ⟨mb, e1, h1.ext e⟩
theorem MatV.n {h : Heap} {po : Option Addr} {l : List Int} {W : Nat} {vbs : List Nat} (H : MatV h po l W vbs) : l.length ≤ 4194304 := by
  rcases H with ⟨_, rfl⟩ | ⟨mb, _, h1⟩
  · simp
  · exact h1.n

theorem c_MatLenNil {h : Heap} :
    FnT Try.prog 55 [.pointer none] h (fun v h' => v = .int .i64 (0 : Nat) ∧ h = h') := by
  refine fn_enter Try.func55 rfl Try.ntmps55 rfl ?_
  refine cd_seq ?_
  refine cd_region ?_
  refine ol_y rfl rfl (y_assign rfl rfl) ?_
  refine ol_nil ?_
  refine thenX_n ?_
  refine cd_seq ?_
  refine cd_seq ?_
  refine cd_region ?_
  refine ol_y rfl rfl (y_move rfl rfl) ?_
  refine ol_y rfl rfl (y_nilP rfl Try.underlying26 rfl rfl) ?_
  refine ol_nil ?_
  refine thenX_n ?_
  refine cd_true rfl rfl ?_
  refine cd_seq ?_
  refine cd_region ?_
  refine ol_y rfl rfl (y_assign rfl rfl) ?_
  refine ol_nil ?_
  refine thenX_n ?_
  refine cd_ret ?_
  refine thenX_r ?_
  refine ret1 Try.results55 rfl ?_
  exact ⟨rfl, rfl⟩


theorem c_MatLenF {h : Heap} {mb W : Nat} {l : List Int} {vbs : List Nat} (hm : MatF h mb l W vbs) :
    FnT Try.prog 55 [.pointer (some ⟨mb, 0, none⟩)] h (fun v h' => v = .int .i64 l.length ∧ h = h') := by
  obtain ⟨T, lv, lb, lc, hb, hlv, hlr⟩ := hm.out
  refine fn_enter Try.func55 rfl Try.ntmps55 rfl ?_
  refine cd_seq ?_
  refine cd_region ?_
  refine ol_y rfl rfl (y_assign rfl rfl) ?_
  refine ol_nil ?_
  refine thenX_n ?_
  refine cd_seq ?_
  refine cd_seq ?_
  refine cd_region ?_
  refine ol_y rfl rfl (y_move rfl rfl) ?_
  refine ol_y rfl rfl (y_nilP rfl Try.underlying26 rfl rfl) ?_
  refine ol_nil ?_
  refine thenX_n ?_
  refine cd_cond _ rfl (fun hc0 => ?_) (fun hc0 => ?_)
  · (try replace hc0 := of_decide_eq_true hc0)
    cases hc0
  · (try replace hc0 := of_decide_eq_false hc0)
    refine cd_skip ?_
    refine thenX_n ?_
    refine cd_seq ?_
    refine cd_region ?_
    refine ol_y rfl rfl (y_move rfl rfl) ?_
    refine ol_y rfl rfl (y_nilCheck rfl rfl) ?_
    refine ol_y rfl rfl (y_fieldAddr rfl fo88_0 rfl) ?_
    refine ol_y rfl rfl (y_load rfl rfl (fun _ e => ldeq e (ld1 scl3 (cellH_blk (by assumption) rfl)))) ?_
    refine ol_y rfl rfl (y_assign rfl rfl) ?_
    refine ol_nil ?_
    refine thenX_n ?_
    refine cd_ret ?_
    refine ret1 Try.results55 rfl ?_
    exact ⟨rfl, rfl⟩


theorem c_MatLen {h : Heap} {po : Option Addr} {W : Nat} {l : List Int} {vbs : List Nat} (hm : MatV h po l W vbs) : FnT Try.prog 55 [.pointer po] h (fun v h' => v = .int .i64 l.length ∧ h = h') := by
  rcases hm with ⟨rfl, rfl⟩ | ⟨mb, rfl, h1⟩
  · exact c_MatLenNil
  · exact c_MatLenF h1

theorem c_CloneP {h : Heap} {v : Value} {b p c : Nat} {xs : List Nat} {L : List HP} (H : Sep h L) (hv : SlV v b p xs.length c) (hr : Rd eP 1 h b p xs) (hl : xs.length ≤ 4194304) :
    FnT Try.prog 91 [v] h (fun v' h' => ∃ b' c', Sep h' (rowP eP 1 93 v' b' c' xs :: L)) := by
  obtain ⟨a, rfl, hn1, hn2⟩ := hv.out
  have hv : SlV (.slice a xs.length c) b p xs.length c := ⟨a, rfl, hn1, hn2⟩
  refine fn_enter Try.func91 rfl Try.ntmps91 rfl ?_
  refine cd_seq ?_
  refine cd_region ?_
  refine ol_y rfl rfl (y_assign rfl rfl) ?_
  refine ol_nil ?_
  refine thenX_n ?_
  refine cd_seq ?_
  refine cd_seq ?_
  refine cd_region ?_
  refine ol_y rfl rfl (y_move rfl rfl) ?_
  refine ol_y rfl rfl (y_nilS rfl Try.underlying86 rfl rfl) ?_
  refine ol_nil ?_
  refine thenX_n ?_
  refine cd_cond _ rfl (fun hc0 => ?_) (fun hc0 => ?_)
  · (try replace hc0 := of_decide_eq_true hc0)
    obtain ⟨e1, e2⟩ := hn1 (by cases a <;> first | rfl | cases hc0)
    obtain rfl := List.eq_nil_of_length_eq_zero e1
    refine cd_seq ?_
    refine cd_region ?_
    refine ol_y rfl rfl (y_assign rfl rfl) ?_
    refine ol_nil ?_
    refine thenX_n ?_
    refine cd_ret ?_
    refine thenX_r ?_
    refine ret1 Try.results91 rfl ?_
    exact ⟨0, 0, H.rowNil _ _ _ _⟩
  · (try replace hc0 := of_decide_eq_false hc0)
    refine cd_skip ?_
    refine thenX_n ?_
    refine cd_seq ?_
    refine cd_region ?_
    refine ol_x rfl rfl (x_buildSlice rfl Try.underlying86 info93 rfl rfl rfl rfl H) ?_
    clear H
    rintro _ h1 ⟨rfl, hz, H⟩
    have hr2 := hz.2.rd hr
    have H := Sep.rowBlk (enc := eP) (xs := ([] : List Nat)) eP_ok rfl (by decide) H
    refine ol_y rfl rfl (y_move rfl rfl) ?_
    refine ol_x rfl rfl (x_append (enc := eP) rfl Try.underlying86 info93 rfl (by decide) eP_ok rfl rfl hv hr2 rfl (by simp; omega) (by simp [maxLen]; omega) H) ?_
    clear H
    rintro v_ h2 ⟨hz2, b_, c_, H⟩
    refine ol_y rfl rfl (y_assign rfl rfl) ?_
    refine ol_nil ?_
    refine thenX_n ?_
    refine cd_ret ?_
    refine ret1 Try.results91 rfl ?_
    exact ⟨b_, c_, H⟩


theorem c_Levels {h : Heap} {mb W : Nat} {l : List Int} {vbs : List Nat} {L : List HP} (H : Sep h L) (hm : MatF h mb l W vbs) :
    FnT Try.prog 57 [.pointer (some ⟨mb, 0, none⟩)] h (fun v' h' => ∃ b' c', Sep h' (rowP eP 1 93 v' b' c' vbs :: L)) := by
  obtain ⟨T, lv, lb, lc, hb, hlv, hlr⟩ := hm.out
  have hvl := hm.len
  have hw := hm.w22
  refine fn_enter Try.func57 rfl Try.ntmps57 rfl ?_
  refine cd_seq ?_
  refine cd_region ?_
  refine ol_y rfl rfl (y_assign rfl rfl) ?_
  refine ol_nil ?_
  refine thenX_n ?_
  refine cd_seq ?_
  refine cd_seq ?_
  refine cd_region ?_
  refine ol_y rfl rfl (y_move rfl rfl) ?_
  refine ol_y rfl rfl (y_nilP rfl Try.underlying26 rfl rfl) ?_
  refine ol_nil ?_
  refine thenX_n ?_
  refine cd_cond _ rfl (fun hc0 => ?_) (fun hc0 => ?_)
  · (try replace hc0 := of_decide_eq_true hc0)
    cases hc0
  · (try replace hc0 := of_decide_eq_false hc0)
    refine cd_skip ?_
    refine thenX_n ?_
    refine cd_seq ?_
    refine cd_region ?_
    refine ol_y rfl rfl (y_move rfl rfl) ?_
    refine ol_y rfl rfl (y_nilCheck rfl rfl) ?_
    refine ol_y rfl rfl (y_fieldAddr rfl fo88_2 rfl) ?_
    refine ol_y rfl rfl (y_load rfl rfl (fun _ e => ldeq e (ld1 scl86 (cellH_blk (by assumption) rfl)))) ?_
    refine ol_x rfl rfl (x_call rfl go91 rfl (c_CloneP H hlv hlr (by omega))) ?_
    clear H
    rintro v_ h2 ⟨b_, c_, H⟩
    refine ol_y rfl rfl (y_assign rfl rfl) ?_
    refine ol_nil ?_
    refine thenX_n ?_
    refine cd_ret ?_
    refine ret1 Try.results57 rfl ?_
    exact ⟨b_, c_, H⟩


theorem c_put {h : Heap} {sb qb qc : Nat} {po : Option Addr} {qv : Value} {q : List Prt} {p : Prt} {L : List HP} (H : Sep h (blk sb [.pointer po, qv] 99 :: rowP ePt 5 102 qv qb qc q :: L)) (hql : q.length < 8388608) (hpb : ∀ x ∈ q, PB x) (hp : p.a < p.b → PB p) :
    FnT Try.prog 54 [.pointer (some ⟨sb, 0, none⟩), .agg (ePt p).toArray] h (fun v h' => v = .tuple #[] ∧ ∃ qv' qb' qc', Sep h' (blk sb [.pointer po, qv'] 99 :: rowP ePt 5 102 qv' qb' qc' (putQ q p) :: L)) := by
  refine fn_enter Try.func54 rfl Try.ntmps54 rfl ?_
  refine cd_seq ?_
  refine cd_region ?_
  refine ol_x rfl rfl (x_box rfl rfl rfl H) ?_
  clear H
  rintro _ h2 ⟨rfl, hz1, H⟩
  have hbx := H.obj 0 rfl
  replace H := H.drop
  refine ol_nil ?_
  refine thenX_n ?_
  refine cd_seq ?_
  refine cd_region ?_
  refine ol_y rfl rfl (y_fieldAddr rfl fo102_3 rfl) ?_
  refine ol_y rfl rfl (y_load rfl rfl (fun _ e => ldeq e (ld1 scl3 (cellH_blk (by assumption) rfl)))) ?_
  refine ol_y rfl rfl (y_fieldAddr rfl fo102_4 rfl) ?_
  refine ol_y rfl rfl (y_load rfl rfl (fun _ e => ldeq e (ld1 scl3 (cellH_blk (by assumption) rfl)))) ?_
  refine ol_y rfl rfl (y_lss rfl rfl rfl) ?_
  refine ol_nil ?_
  refine thenX_n ?_
  refine cd_cond _ rfl (fun hc0 => ?_) (fun hc0 => ?_)
  · (try replace hc0 := of_decide_eq_true hc0)
    have hq1 : putQ q p = pushL q p := by unfold putQ; rw [if_pos hc0]
    refine cd_draw (some 6) (fun x => x = h2) [(0, 0), (1, 0), (2, 0), (3, 0), (4, 1), (5, 0), (6, 2)] mixed (by kernel_rfl) (by kernel_rfl) (by kernel_rfl) ?_ ?_
    · exact rfl
    refine hs_p rfl rfl rfl (y_move rfl rfl) ?_
    refine hs_p rfl rfl rfl (y_nilCheck rfl rfl) ?_
    refine hs_p rfl rfl rfl (y_fieldAddr rfl fo99_1 rfl) ?_
    refine hs_p rfl rfl rfl (y_makeInterface rfl conc104 rfl) ?_
    refine hs_y rfl rfl rfl (y_load rfl rfl (fun _ e => ldeq e (ldBlk agg102 (by assumption) rfl))) ?_
    refine hs_p rfl rfl rfl (y_makeInterface rfl conc102 rfl) ?_
    refine hs_xk rfl rfl rfl (x_call rfl go89 rfl (c_hPush (p := p) H hql hpb (hp hc0))) rfl ?_
    clear H
    rintro _ h4 ⟨rfl, qv, qb, qc, H⟩
    refine hs_nil ?_
    refine ret0n Try.results54 ?_
    rw [hq1]
    exact ⟨rfl, qv, qb, qc, H⟩
  · (try replace hc0 := of_decide_eq_false hc0)
    have hq1 : putQ q p = q := by unfold putQ; rw [if_neg hc0]
    refine cd_skip ?_
    refine ret0n Try.results54 ?_
    rw [hq1]
    exact ⟨rfl, qv, qb, qc, H⟩


theorem c_bestNew {h : Heap} {po : Option Addr} {W : Nat} {l : List Int} {vbs : List Nat} {a b : Int} {L : List HP} (H : Sep h L) (hm : MatV h po l W vbs) :
    FnT Try.prog 22 [.pointer po, .int .i64 a, .int .i64 b] h (fun v h' => ∃ sb qv qb qc, v = .pointer (some ⟨sb, 0, none⟩) ∧ Sep h' (blk sb [.pointer po, qv] 99 :: rowP ePt 5 102 qv qb qc (putQ [] ⟨0, 0, 0, max a 0, min b l.length⟩) :: L)) := by
  have hn := hm.n
  refine fn_enter Try.func22 rfl Try.ntmps22 rfl ?_
  refine cd_seq ?_
  refine cd_region ?_
  refine ol_y rfl rfl (y_assign rfl rfl) ?_
  refine ol_nil ?_
  refine thenX_n ?_
  refine cd_seq ?_
  refine cd_region ?_
  refine ol_y rfl rfl (y_move rfl rfl) ?_
  refine ol_y rfl rfl (y_build (cs := [_, _]) rfl pl99 zero99 rfl) ?_
  refine ol_x rfl rfl (x_box rfl rfl rfl H) ?_
  clear H
  rintro _ h2 ⟨rfl, hz1, H⟩
  replace H : Sep h2 (blk h.size [.pointer po, .slice none 0 0] 99 :: L) := H
  replace H := (H.rowNil ePt 5 102 0).swap
  replace hm := hm.ext hz1.2
  refine ol_y rfl rfl (y_assign rfl rfl) ?_
  refine ol_nil ?_
  refine thenX_n ?_
  refine cd_seq ?_
  refine cd_region ?_
  refine ol_y rfl rfl (y_move rfl rfl) ?_
  refine ol_y rfl rfl (y_move rfl rfl) ?_
  refine ol_y rfl rfl (y_max rfl rfl rfl) ?_
  refine ol_y rfl rfl (y_move rfl rfl) ?_
  refine ol_y rfl rfl (y_move rfl rfl) ?_
  refine ol_x rfl rfl (x_call rfl go55 rfl (c_MatLen hm)) ?_
  rintro _ _ ⟨rfl, rfl⟩
  refine ol_y rfl rfl (y_min rfl rfl rfl) ?_
  refine ol_y rfl rfl (y_build (cs := [_, _, _, _, _]) rfl pl102 zero102 rfl) ?_
  refine ol_x rfl rfl (x_call rfl go54 rfl (c_put (q := []) (p := ⟨0, 0, 0, max a 0, min b l.length⟩) H (by simp) (by simp) (fun hlt => ⟨by (try dsimp only); omega, by (try dsimp only at *); omega, by (try dsimp only); omega⟩))) ?_
  clear H
  rintro _ h5 ⟨rfl, qv, qb, qc, H⟩
  refine ol_nil ?_
  refine thenX_n ?_
  refine cd_seq ?_
  refine cd_region ?_
  refine ol_y rfl rfl (y_move rfl rfl) ?_
  refine ol_y rfl rfl (y_assign rfl rfl) ?_
  refine ol_nil ?_
  refine thenX_n ?_
  refine cd_ret ?_
  refine ret1 Try.results22 rfl ?_
  exact ⟨_, qv, qb, qc, rfl, H⟩


end Go.X
