/- Contracts of functions of the program: what each returns. Conditions: the hypotheses of each theorem. -/
import Derived.Test.YtlgkhajmjgepaaaRec
import Derived.Test.YtlgkhajmjgepaaaCyE
set_option linter.unusedVariables false
set_option linter.unusedSimpArgs false
namespace Go.Proofs.Ytlgkhajmjgepaaa
open Go Go.Cx

theorem go66 : isGo Try.prog 66 = true := by kernel_rfl
theorem sl45 : slcO Try.prog 45 = some (31, 5, 56) := by kernel_rfl

def zeroR : RcV := ⟨0, 0, 0, 0, ⟨none, 0, []⟩⟩
/-- the first of the records with the greatest number -/
def bestR : List RcV → RcV
  | [] => zeroR
  | x :: r => r.foldl (fun b y => if b.sq < y.sq then y else b) x
theorem bestR_one {xs : List RcV} {e : RcV} (h : xs[0]? = some e) : bestR (xs.take 1) = e := by
  cases xs with
  | nil => simp at h
  | cons x r => simp at h; subst h; rfl
theorem bestR_next {xs : List RcV} {i : Nat} {e : RcV} (h0 : i ≠ 0) (h : xs[i]? = some e) : bestR (xs.take (i + 1)) = if (bestR (xs.take i)).sq < e.sq then e else bestR (xs.take i) := by
  cases xs with
  | nil => simp at h
  | cons x r =>
    obtain ⟨k, rfl⟩ : ∃ k, i = k + 1 := ⟨i - 1, by omega⟩
    rw [List.getElem?_cons_succ] at h
    rw [List.take_succ_cons, List.take_succ_cons, List.take_add_one, h]
    simp only [bestR, Option.toList, List.foldl_append, List.foldl_cons, List.foldl_nil]
    rfl

theorem rec_number (x : RcV) (w0 : World) : C Try.prog 66 [.agg ⟨encR x⟩] w0 fun v w' => v = .int .u64 x.sq ∧ Ext No w0 w' := by
  refine C_of Try.func66 rfl rfl rfl fun κ hret hnorm => ?_
  have hm := Mem.start w0
  refine HW_seq rfl ?_
  refine HW_text (.act 0 (.pure 1 .done)) (by kernel_rfl) ?_
  refine a_box rfl rfl rfl rfl hm trivial fun m1 w hg_m1 hm hh => ?_
  refine rw_p rfl rfl (y_assign rfl) ?_
  refine rw_done ?_
  refine gn_sq ?_
  refine HW_seq rfl ?_
  refine HW_text (.pure 0 (.pure 1 (.pure 2 .done))) (by kernel_rfl) ?_
  refine rw_p rfl rfl (y_fieldAddr rfl fo31_0) ?_
  refine rw_p rfl rfl (y_load rfl sc22 (hm.nt 0 rfl) rfl) ?_
  refine rw_p rfl rfl (y_assign rfl) ?_
  refine rw_done ?_
  refine gn_sq ?_
  refine HW_ret rfl ?_
  refine toR (fin hret rfl (.tmp rfl .nil) .one ?_)
  exact ⟨rfl, hm.to⟩

set_option maxHeartbeats 800000 in
theorem rec_greatest (p : Option Addr) (cap : Nat) (xs : List RcV) (w0 : World) (hx : Rd w0 p (xs.flatMap encR)) (hl : xs.length ≤ 9223372036854775807) : C Try.prog 33 [.slice p xs.length cap] w0 fun v w' => v = .tuple ⟨[.agg ⟨encR (bestR xs)⟩, .bool (decide (0 < xs.length))]⟩ ∧ Ext No w0 w' := by
  refine C_of Try.func33 rfl rfl rfl fun κ hret hnorm => ?_
  have hm := Mem.start w0
  refine HW_seq rfl ?_
  refine HW_text (.act 0 (.pure 1 .done)) (by kernel_rfl) ?_
  refine a_alloc rfl rfl z31 hm trivial fun m1 w hg_m1 hm hh => ?_
  refine rw_p rfl rfl (y_assign rfl) ?_
  refine rw_done ?_
  refine gn_sq ?_
  refine HW_seq rfl ?_
  refine HW_text (.act 0 .done) (by kernel_rfl) ?_
  refine a_alloc rfl rfl z31 hm trivial fun m2 w hg_m2 hm hh => ?_
  refine rw_done ?_
  refine gn_sq ?_
  refine HW_seq rfl ?_
  refine HW_seq rfl ?_
  refine HW_text (.pure 0 (.pure 1 (.pure 2 .done))) (by kernel_rfl) ?_
  refine rw_p rfl rfl (y_move rfl) ?_
  refine rw_p rfl rfl (y_len rfl rfl sl45) ?_
  refine rw_p rfl rfl (y_move rfl) ?_
  refine rw_done ?_
  refine gn_sq ?_
  refine HW_block rfl ?_
  refine HW_loopK (ι := Nat) rfl (ks := [0, 2, 3, 4, 7, 8]) (.cons rfl (.cons rfl (.cons rfl (.cons rfl (.cons rfl (.cons rfl .nil)))))) (fun x => [(9, .int .i64 x)]) (fun x w => Mem w0 w No [(m2, .row 31 (encR (bestR (xs.take x)))), (m1, .row 31 [.int .u64 0, .int .u64 0, .int .i64 0, .int .i64 0, .slice none 0 0])] ∧ x ≤ xs.length) (fun x => xs.length - x) 0 (⟨(hm.pick [0, 1] rfl), Nat.zero_le _⟩) ⟨rfl, trivial⟩ (fun x w hM => ?_)
  obtain ⟨hm, hk⟩ := hM
  refine HW_seq rfl ?_
  refine HW_text (.pure 0 .done) (by kernel_rfl) ?_
  refine rw_p rfl rfl (y_lt rfl rfl) ?_
  refine rw_done ?_
  refine gn_sq ?_
  refine HW_seq rfl ?_
  refine HW_cond rfl rfl (fun hc0 => ?_) (fun hc0 => ?_)
  ·
    simp only [decide_eq_true_eq] at hc0
    obtain ⟨e, hi⟩ : ∃ y_, xs[x]? = some y_ := ⟨_, List.getElem?_eq_getElem (by omega)⟩
    obtain ⟨qb, qo, rfl⟩ := hx.atI encR_len (by decide) hi
    refine HW_skip rfl ?_
    refine gn_sq ?_
    refine HW_seq rfl ?_
    refine HW_block rfl ?_
    refine HW_seq rfl ?_
    refine HW_text (.pure 0 (.pure 1 (.pure 2 (.act 3 (.pure 4 (.act 5 .done)))))) (by kernel_rfl) ?_
    refine rw_p rfl rfl (y_move rfl) ?_
    refine rw_p rfl rfl (y_index rfl rfl sl45 rfl (by omega) (by omega)) ?_
    refine rw_p rfl rfl (y_elA rfl ag31 (hx.ext0 hm.to).nt encR_len hi) ?_
    refine a_alloc rfl rfl z31 hm trivial fun m3 w hg_m3 hm hh => ?_
    refine rw_p rfl rfl (y_assign rfl) ?_
    refine a_store rfl rfl rfl rfl sz31 rfl hm 0 rfl rfl fun w hm => ?_
    refine rw_done ?_
    refine gn_sq ?_
    refine HW_seq rfl ?_
    by_cases hx0 : x = 0
    ·
      have hbn : (bestR (xs.take (x + 1))) = e := by subst hx0; exact bestR_one hi
      refine HW_draw (.pure 0 (.pure 1 (.pure 2 (.pure 3 (.pure 4 (.pure 6 (.pure 7 (.act 5 (.cut (.act 8 (.pure 9 (.pure 10 .done)))))))))))) No mix (by kernel_rfl) hm fun w hw hm0 hh => ?_
      have hm := hm0
      refine rw_p rfl rfl (y_move rfl) ?_
      refine rw_p rfl rfl (y_as (c := true) (y_eq rfl rfl) (decide_eq_true (by omega))) ?_
      refine rw_p rfl rfl (y_move rfl) ?_
      refine rw_gf rfl rfl (by decide) rfl ?_
      refine rw_gf rfl rfl (by decide) rfl ?_
      refine rw_gf rfl rfl (by decide) rfl ?_
      refine rw_gf rfl rfl (by decide) rfl ?_
      refine a_gf rfl rfl (by decide) rfl hh ?_
      refine a_cut ?_
      refine a_gf rfl rfl (by decide) rfl trivial ?_
      refine rw_gf rfl rfl (by decide) rfl ?_
      refine rw_p rfl rfl (y_pickT rfl rfl) ?_
      refine rw_done ?_
      refine gn_sq ?_
      refine HW_condT rfl rfl rfl ?_
      refine HW_text (.pure 0 (.act 1 .done)) (by kernel_rfl) ?_
      refine rw_p rfl rfl (y_loadA (s := 5) (vs := [_, _, _, _, _]) rfl ag31 (hm.nt 0 rfl) rfl) ?_
      refine a_store rfl rfl rfl rfl sz31 rfl hm 1 rfl rfl fun w hm => ?_
      refine rw_done ?_
      refine gn_bl ?_
      refine gn_sq ?_
      refine HW_text (.pure 0 (.pure 1 .done)) (by kernel_rfl) ?_
      refine rw_p rfl rfl (y_add rfl rfl (i64w (by omega) (by omega))) ?_
      refine rw_p rfl rfl (y_move rfl) ?_
      refine rw_done ?_
      refine next (x + 1) (by omega) ⟨?_, by omega⟩ ⟨nx x, rfl, rfl, rfl, rfl, rfl, rfl, trivial⟩
      rw [hbn]
      exact (hm.pick [1, 2] rfl)
    ·
      refine HW_draw (.pure 0 (.pure 1 (.pure 2 (.pure 3 (.pure 4 (.pure 6 (.pure 7 (.act 5 (.cut (.act 8 (.pure 9 (.pure 10 .done)))))))))))) No mix (by kernel_rfl) hm fun w hw hm0 hh => ?_
      have hm := hm0
      refine rw_p rfl rfl (y_move rfl) ?_
      refine rw_p rfl rfl (y_as (c := false) (y_eq rfl rfl) (decide_eq_false (by omega))) ?_
      refine rw_p rfl rfl (y_move rfl) ?_
      refine rw_p rfl rfl (y_loadA (s := 5) (vs := [_, _, _, _, _]) rfl ag31 (hm0.nd 0 rfl id) rfl) ?_
      refine rw_p rfl rfl (y_ifaceS rfl (by kernel_rfl)) ?_
      refine rw_p rfl rfl (y_loadA (s := 5) (vs := [_, _, _, _, _]) rfl ag31 (hm0.nd 1 rfl id) rfl) ?_
      refine rw_p rfl rfl (y_ifaceS rfl (by kernel_rfl)) ?_
      refine a_invoke rfl rfl rfl rfl (by kernel_rfl) go66 (rec_number e _) fun v w hR => ?_
      obtain ⟨rfl, hE⟩ := hR
      refine ⟨hh.ext hE, ?_⟩
      replace hm := hm.ext hE
      replace hh := hh.ext hE
      refine a_cut ?_
      refine a_invoke rfl rfl rfl rfl (by kernel_rfl) go66 (rec_number (bestR (xs.take x)) _) fun v w hR => ?_
      obtain ⟨rfl, hE⟩ := hR
      refine ⟨trivial, ?_⟩
      replace hm := hm.ext hE
      refine rw_p rfl rfl (y_gt rfl rfl) ?_
      refine rw_p rfl rfl (y_pickF rfl rfl) ?_
      refine rw_done ?_
      refine gn_sq ?_
      refine HW_cond rfl rfl (fun hc1 => ?_) (fun hc1 => ?_)
      ·
        simp only [decide_eq_true_eq] at hc1
        have hbn : (bestR (xs.take (x + 1))) = e := by rw [bestR_next hx0 hi, if_pos hc1]
        refine HW_text (.pure 0 (.act 1 .done)) (by kernel_rfl) ?_
        refine rw_p rfl rfl (y_loadA (s := 5) (vs := [_, _, _, _, _]) rfl ag31 (hm.nt 0 rfl) rfl) ?_
        refine a_store rfl rfl rfl rfl sz31 rfl hm 1 rfl rfl fun w hm => ?_
        refine rw_done ?_
        refine gn_bl ?_
        refine gn_sq ?_
        refine HW_text (.pure 0 (.pure 1 .done)) (by kernel_rfl) ?_
        refine rw_p rfl rfl (y_add rfl rfl (i64w (by omega) (by omega))) ?_
        refine rw_p rfl rfl (y_move rfl) ?_
        refine rw_done ?_
        refine next (x + 1) (by omega) ⟨?_, by omega⟩ ⟨nx x, rfl, rfl, rfl, rfl, rfl, rfl, trivial⟩
        rw [hbn]
        exact (hm.pick [1, 2] rfl)
      ·
        simp only [decide_eq_false_iff_not] at hc1
        have hbn : (bestR (xs.take (x + 1))) = (bestR (xs.take x)) := by rw [bestR_next hx0 hi, if_neg hc1]
        refine HW_skip rfl ?_
        refine gn_bl ?_
        refine gn_sq ?_
        refine HW_text (.pure 0 (.pure 1 .done)) (by kernel_rfl) ?_
        refine rw_p rfl rfl (y_add rfl rfl (i64w (by omega) (by omega))) ?_
        refine rw_p rfl rfl (y_move rfl) ?_
        refine rw_done ?_
        refine next (x + 1) (by omega) ⟨?_, by omega⟩ ⟨nx x, rfl, rfl, rfl, rfl, rfl, rfl, trivial⟩
        rw [hbn]
        exact (hm.pick [1, 2] rfl)
  ·
    simp only [decide_eq_false_iff_not] at hc0
    have hke : x = xs.length := by omega
    rw [hke, List.take_length] at hm
    refine HW_exit rfl ?_
    refine gx_sq (gx_lp ?_)
    refine gx_here ?_
    refine gn_sq ?_
    refine HW_seq rfl ?_
    refine HW_text (.pure 0 (.pure 1 (.pure 2 (.pure 3 (.act 4 (.pure 5 .done)))))) (by kernel_rfl) ?_
    refine rw_p rfl rfl (y_loadA (s := 5) (vs := [_, _, _, _, _]) rfl ag31 (hm.nt 0 rfl) rfl) ?_
    refine rw_p rfl rfl (y_move rfl) ?_
    refine rw_p rfl rfl (y_len rfl rfl sl45) ?_
    refine rw_p rfl rfl (y_gt rfl rfl) ?_
    refine a_store rfl rfl rfl rfl sz31 rfl hm 1 rfl rfl fun w hm => ?_
    refine rw_p rfl rfl (y_assign rfl) ?_
    refine rw_done ?_
    refine gn_sq ?_
    refine HW_ret rfl ?_
    refine toR (fin hret rfl (.cell rfl (run_loadVar_a (vs := [_, _, _, _, _]) ag31 (hm.get (k := 1) rfl) rfl) (.tmp rfl .nil)) .more ?_)
    exact ⟨by simp; rfl, hm.to⟩

end Go.Proofs.Ytlgkhajmjgepaaa
