/- Contracts of functions of the program: what each returns. Conditions: the hypotheses of each theorem. -/
import Derived.Test.YthailbggeafckaaGreatRec
set_option linter.unusedVariables false
set_option linter.unusedSimpArgs false
namespace Go.Proofs.YthailbggeafckaaGreat
open Go Go.Cx

theorem go126 : isGo Tryz.prog 126 = true := by kernel_rfl
theorem sl70 : slcO Tryz.prog 70 = some (57, 5, 56) := by kernel_rfl
theorem sb70 : slcB Tryz.prog 70 = true := by kernel_rfl
theorem ag78 : aggS Tryz.prog 78 = some 5 := by kernel_rfl
theorem ft78 : fldT Tryz.prog 78 = some [(0, 1), (1, 1), (2, 1), (3, 1), (4, 1)] := by kernel_rfl
theorem sl81 : slcO Tryz.prog 81 = some (78, 5, 56) := by kernel_rfl
theorem sz78 : szO Tryz.prog 78 = some 5 := by kernel_rfl
theorem z78 : zer Tryz.prog 78 = some [.int .u64 0, .int .u64 0, .int .i64 0, .int .i64 0, .slice none 0 0] := by kernel_rfl
theorem go97 : isGo Tryz.prog 97 = true := by kernel_rfl
theorem go60 : isGo Tryz.prog 60 = true := by kernel_rfl
theorem go61 : isGo Tryz.prog 61 = true := by kernel_rfl
theorem go62 : isGo Tryz.prog 62 = true := by kernel_rfl
theorem go63 : isGo Tryz.prog 63 = true := by kernel_rfl

def zeroR : RcV := ⟨0, 0, 0, 0, ⟨none, 0, []⟩⟩
/-- the first of the records with the greatest number -/
def bestR : List RcV → RcV
  | [] => zeroR
  | x :: r => r.foldl (fun b y => if b.sq < y.sq then y else b) x
theorem bestR_one {xs : List RcV} {e : RcV} (h : xs[0]? = some e) : bestR (xs.take 1) = e := by
  cases xs with
  | nil => simp at h
  | cons x r => simp at h; subst h; rfl
theorem bestR_next {xs : List RcV} {i : Nat} {e : RcV} (h0 : i ≠ 0) (h : xs[i]? = some e) : bestR (xs.take (i + 1)) = if (bestR (xs.take i)).sq < e.sq then e else bestR (xs.take i) := by
  cases xs with
  | nil => simp at h
  | cons x r =>
    obtain ⟨k, rfl⟩ : ∃ k, i = k + 1 := ⟨i - 1, by omega⟩
    rw [List.getElem?_cons_succ] at h
    rw [List.take_succ_cons, List.take_succ_cons, List.take_add_one, h]
    simp only [bestR, Option.toList, List.foldl_append, List.foldl_cons, List.foldl_nil]
    rfl

theorem rec_number (x : RcV) (w0 : World) : C Tryz.prog 126 [.agg ⟨encR x⟩] w0 fun v w' => v = .int .u64 x.sq ∧ Ext No w0 w' := by
  refine C_of Tryz.func126 rfl rfl rfl fun κ hret hnorm => ?_
  have hm := Mem.start w0
  refine HW_seq rfl ?_
  refine HW_text (.act 0 (.pure 1 .done)) (by kernel_rfl) ?_
  refine a_box rfl rfl rfl rfl hm trivial fun m1 w hg_m1 hm hh => ?_
  refine rw_p rfl rfl (y_assign rfl) ?_
  refine rw_done ?_
  refine gn_sq ?_
  refine HW_seq rfl ?_
  refine HW_text (.pure 0 (.pure 1 (.pure 2 .done))) (by kernel_rfl) ?_
  refine rw_p rfl rfl (y_fieldAddr rfl fo57_0) ?_
  refine rw_p rfl rfl (y_load rfl sc23 (hm.nt 0 rfl) rfl) ?_
  refine rw_p rfl rfl (y_assign rfl) ?_
  refine rw_done ?_
  refine gn_sq ?_
  refine HW_ret rfl ?_
  refine toR (fin hret rfl (.tmp rfl .nil) .one ?_)
  exact ⟨rfl, hm.to⟩

set_option maxHeartbeats 800000 in
theorem rec_greatest (p : Option Addr) (cap : Nat) (xs : List RcV) (w0 : World) (hx : Rd w0 p (xs.flatMap encR)) (hl : xs.length ≤ 9223372036854775807) : C Tryz.prog 60 [.slice p xs.length cap] w0 fun v w' => v = .tuple ⟨[.agg ⟨encR (bestR xs)⟩, .bool (decide (0 < xs.length))]⟩ ∧ Ext No w0 w' := by
  refine C_of Tryz.func60 rfl rfl rfl fun κ hret hnorm => ?_
  have hm := Mem.start w0
  refine HW_seq rfl ?_
  refine HW_text (.act 0 (.pure 1 .done)) (by kernel_rfl) ?_
  refine a_alloc rfl rfl z57 hm trivial fun m1 w hg_m1 hm hh => ?_
  refine rw_p rfl rfl (y_assign rfl) ?_
  refine rw_done ?_
  refine gn_sq ?_
  refine HW_seq rfl ?_
  refine HW_text (.act 0 .done) (by kernel_rfl) ?_
  refine a_alloc rfl rfl z57 hm trivial fun m2 w hg_m2 hm hh => ?_
  refine rw_done ?_
  refine gn_sq ?_
  refine HW_seq rfl ?_
  refine HW_seq rfl ?_
  refine HW_text (.pure 0 (.pure 1 (.pure 2 .done))) (by kernel_rfl) ?_
  refine rw_p rfl rfl (y_move rfl) ?_
  refine rw_p rfl rfl (y_len rfl rfl sl70) ?_
  refine rw_p rfl rfl (y_move rfl) ?_
  refine rw_done ?_
  refine gn_sq ?_
  refine HW_block rfl ?_
  refine HW_loopK (ι := Nat) rfl (ks := [0, 2, 3, 4, 7, 8]) (.cons rfl (.cons rfl (.cons rfl (.cons rfl (.cons rfl (.cons rfl .nil)))))) (fun x => [(9, .int .i64 x)]) (fun x w => Mem w0 w No [(m2, .row 57 (encR (bestR (xs.take x)))), (m1, .row 57 [.int .u64 0, .int .u64 0, .int .i64 0, .int .i64 0, .slice none 0 0])] ∧ x ≤ xs.length) (fun x => xs.length - x) 0 (⟨(hm.pick [0, 1] rfl), Nat.zero_le _⟩) ⟨rfl, trivial⟩ (fun x w hM => ?_)
  obtain ⟨hm, hk⟩ := hM
  refine HW_seq rfl ?_
  refine HW_text (.pure 0 .done) (by kernel_rfl) ?_
  refine rw_p rfl rfl (y_lt rfl rfl) ?_
  refine rw_done ?_
  refine gn_sq ?_
  refine HW_seq rfl ?_
  refine HW_cond rfl rfl (fun hc0 => ?_) (fun hc0 => ?_)
  ·
    simp only [decide_eq_true_eq] at hc0
    obtain ⟨e, hi⟩ : ∃ y_, xs[x]? = some y_ := ⟨_, List.getElem?_eq_getElem (by omega)⟩
    obtain ⟨qb, qo, rfl⟩ := hx.atI encR_len (by decide) hi
    refine HW_skip rfl ?_
    refine gn_sq ?_
    refine HW_seq rfl ?_
    refine HW_block rfl ?_
    refine HW_seq rfl ?_
    refine HW_text (.pure 0 (.pure 1 (.pure 2 (.act 3 (.pure 4 (.act 5 .done)))))) (by kernel_rfl) ?_
    refine rw_p rfl rfl (y_move rfl) ?_
    refine rw_p rfl rfl (y_index rfl rfl sl70 rfl (by omega) (by omega)) ?_
    refine rw_p rfl rfl (y_elA rfl ag57 (hx.ext0 hm.to).nt encR_len hi) ?_
    refine a_alloc rfl rfl z57 hm trivial fun m3 w hg_m3 hm hh => ?_
    refine rw_p rfl rfl (y_assign rfl) ?_
    refine a_store rfl rfl rfl rfl sz57 rfl hm 0 rfl rfl fun w hm => ?_
    refine rw_done ?_
    refine gn_sq ?_
    refine HW_seq rfl ?_
    by_cases hx0 : x = 0
    ·
      have hbn : (bestR (xs.take (x + 1))) = e := by subst hx0; exact bestR_one hi
      refine HW_draw (.pure 0 (.pure 1 (.pure 2 (.pure 3 (.pure 4 (.pure 6 (.pure 7 (.act 5 (.cut (.act 8 (.pure 9 (.pure 10 .done)))))))))))) No mix (by kernel_rfl) hm fun w hw hm0 hh => ?_
      have hm := hm0
      refine rw_p rfl rfl (y_move rfl) ?_
      refine rw_p rfl rfl (y_as (c := true) (y_eq rfl rfl) (decide_eq_true (by omega))) ?_
      refine rw_p rfl rfl (y_move rfl) ?_
      refine rw_gf rfl rfl (by decide) rfl ?_
      refine rw_gf rfl rfl (by decide) rfl ?_
      refine rw_gf rfl rfl (by decide) rfl ?_
      refine rw_gf rfl rfl (by decide) rfl ?_
      refine a_gf rfl rfl (by decide) rfl hh ?_
      refine a_cut ?_
      refine a_gf rfl rfl (by decide) rfl trivial ?_
      refine rw_gf rfl rfl (by decide) rfl ?_
      refine rw_p rfl rfl (y_pickT rfl rfl) ?_
      refine rw_done ?_
      refine gn_sq ?_
      refine HW_condT rfl rfl rfl ?_
      refine HW_text (.pure 0 (.act 1 .done)) (by kernel_rfl) ?_
      refine rw_p rfl rfl (y_loadA (s := 5) (vs := [_, _, _, _, _]) rfl ag57 (hm.nt 0 rfl) rfl) ?_
      refine a_store rfl rfl rfl rfl sz57 rfl hm 1 rfl rfl fun w hm => ?_
      refine rw_done ?_
      refine gn_bl ?_
      refine gn_sq ?_
      refine HW_text (.pure 0 (.pure 1 .done)) (by kernel_rfl) ?_
      refine rw_p rfl rfl (y_add rfl rfl (i64w (by omega) (by omega))) ?_
      refine rw_p rfl rfl (y_move rfl) ?_
      refine rw_done ?_
      refine next (x + 1) (by omega) ⟨?_, by omega⟩ ⟨nx x, rfl, rfl, rfl, rfl, rfl, rfl, trivial⟩
      rw [hbn]
      exact (hm.pick [1, 2] rfl)
    ·
      refine HW_draw (.pure 0 (.pure 1 (.pure 2 (.pure 3 (.pure 4 (.pure 6 (.pure 7 (.act 5 (.cut (.act 8 (.pure 9 (.pure 10 .done)))))))))))) No mix (by kernel_rfl) hm fun w hw hm0 hh => ?_
      have hm := hm0
      refine rw_p rfl rfl (y_move rfl) ?_
      refine rw_p rfl rfl (y_as (c := false) (y_eq rfl rfl) (decide_eq_false (by omega))) ?_
      refine rw_p rfl rfl (y_move rfl) ?_
      refine rw_p rfl rfl (y_loadA (s := 5) (vs := [_, _, _, _, _]) rfl ag57 (hm0.nd 0 rfl id) rfl) ?_
      refine rw_p rfl rfl (y_ifaceS rfl (by kernel_rfl)) ?_
      refine rw_p rfl rfl (y_loadA (s := 5) (vs := [_, _, _, _, _]) rfl ag57 (hm0.nd 1 rfl id) rfl) ?_
      refine rw_p rfl rfl (y_ifaceS rfl (by kernel_rfl)) ?_
      refine a_invoke rfl rfl rfl rfl (by kernel_rfl) go126 (rec_number e _) fun v w hR => ?_
      obtain ⟨rfl, hE⟩ := hR
      refine ⟨hh.ext hE, ?_⟩
      replace hm := hm.ext hE
      replace hh := hh.ext hE
      refine a_cut ?_
      refine a_invoke rfl rfl rfl rfl (by kernel_rfl) go126 (rec_number (bestR (xs.take x)) _) fun v w hR => ?_
      obtain ⟨rfl, hE⟩ := hR
      refine ⟨trivial, ?_⟩
      replace hm := hm.ext hE
      refine rw_p rfl rfl (y_gt rfl rfl) ?_
      refine rw_p rfl rfl (y_pickF rfl rfl) ?_
      refine rw_done ?_
      refine gn_sq ?_
      refine HW_cond rfl rfl (fun hc1 => ?_) (fun hc1 => ?_)
      ·
        simp only [decide_eq_true_eq] at hc1
        have hbn : (bestR (xs.take (x + 1))) = e := by rw [bestR_next hx0 hi, if_pos hc1]
        refine HW_text (.pure 0 (.act 1 .done)) (by kernel_rfl) ?_
        refine rw_p rfl rfl (y_loadA (s := 5) (vs := [_, _, _, _, _]) rfl ag57 (hm.nt 0 rfl) rfl) ?_
        refine a_store rfl rfl rfl rfl sz57 rfl hm 1 rfl rfl fun w hm => ?_
        refine rw_done ?_
        refine gn_bl ?_
        refine gn_sq ?_
        refine HW_text (.pure 0 (.pure 1 .done)) (by kernel_rfl) ?_
        refine rw_p rfl rfl (y_add rfl rfl (i64w (by omega) (by omega))) ?_
        refine rw_p rfl rfl (y_move rfl) ?_
        refine rw_done ?_
        refine next (x + 1) (by omega) ⟨?_, by omega⟩ ⟨nx x, rfl, rfl, rfl, rfl, rfl, rfl, trivial⟩
        rw [hbn]
        exact (hm.pick [1, 2] rfl)
      ·
        simp only [decide_eq_false_iff_not] at hc1
        have hbn : (bestR (xs.take (x + 1))) = (bestR (xs.take x)) := by rw [bestR_next hx0 hi, if_neg hc1]
        refine HW_skip rfl ?_
        refine gn_bl ?_
        refine gn_sq ?_
        refine HW_text (.pure 0 (.pure 1 .done)) (by kernel_rfl) ?_
        refine rw_p rfl rfl (y_add rfl rfl (i64w (by omega) (by omega))) ?_
        refine rw_p rfl rfl (y_move rfl) ?_
        refine rw_done ?_
        refine next (x + 1) (by omega) ⟨?_, by omega⟩ ⟨nx x, rfl, rfl, rfl, rfl, rfl, rfl, trivial⟩
        rw [hbn]
        exact (hm.pick [1, 2] rfl)
  ·
    simp only [decide_eq_false_iff_not] at hc0
    have hke : x = xs.length := by omega
    rw [hke, List.take_length] at hm
    refine HW_exit rfl ?_
    refine gx_sq (gx_lp ?_)
    refine gx_here ?_
    refine gn_sq ?_
    refine HW_seq rfl ?_
    refine HW_text (.pure 0 (.pure 1 (.pure 2 (.pure 3 (.act 4 (.pure 5 .done)))))) (by kernel_rfl) ?_
    refine rw_p rfl rfl (y_loadA (s := 5) (vs := [_, _, _, _, _]) rfl ag57 (hm.nt 0 rfl) rfl) ?_
    refine rw_p rfl rfl (y_move rfl) ?_
    refine rw_p rfl rfl (y_len rfl rfl sl70) ?_
    refine rw_p rfl rfl (y_gt rfl rfl) ?_
    refine a_store rfl rfl rfl rfl sz57 rfl hm 1 rfl rfl fun w hm => ?_
    refine rw_p rfl rfl (y_assign rfl) ?_
    refine rw_done ?_
    refine gn_sq ?_
    refine HW_ret rfl ?_
    refine toR (fin hret rfl (.cell rfl (run_loadVar_a (vs := [_, _, _, _, _]) ag57 (hm.get (k := 1) rfl) rfl) (.tmp rfl .nil)) .more ?_)
    exact ⟨by simp; rfl, hm.to⟩

theorem idxf_r (p : Option Addr) (cap : Nat) (xs : List RcV) (fi : FuncId) (l2 : List Value) (pred : RcV → Bool) (w0 : World) (hx : Rd w0 p (xs.flatMap encR)) (hlen : xs.length ≤ 9223372036854775807) (hg : isGo Tryz.prog fi = true) (hf : ∀ x w1, x ∈ xs → Ext No w0 w1 → C Tryz.prog fi (.agg ⟨encR x⟩ :: l2) w1 fun v w2 => v = .bool (pred x) ∧ Ext No w1 w2) : C Tryz.prog 97 [.slice p xs.length cap, .func (.func fi) #[] ⟨l2⟩] w0 fun v w' => v = .int .i64 (Pl.idx pred xs) ∧ Ext No w0 w' := by
  refine C_of Tryz.func97 rfl rfl rfl fun κ hret hnorm => ?_
  have hm := Mem.start w0
  refine HW_seq rfl ?_
  refine HW_text (.pure 0 .done) (by kernel_rfl) ?_
  refine rw_p rfl rfl (y_assign rfl) ?_
  refine rw_done ?_
  refine gn_sq ?_
  refine HW_seq rfl ?_
  refine HW_seq rfl ?_
  refine HW_text (.pure 0 (.pure 1 (.pure 2 .done))) (by kernel_rfl) ?_
  refine rw_p rfl rfl (y_move rfl) ?_
  refine rw_p rfl rfl (y_len rfl rfl sl70) ?_
  refine rw_p rfl rfl (y_move rfl) ?_
  refine rw_done ?_
  refine gn_sq ?_
  refine HW_block rfl ?_
  refine HW_loopK (ι := Nat) rfl (ks := [0, 1, 7]) (.cons rfl (.cons rfl (.cons rfl .nil))) (fun k => [(8, .int .i64 k)]) (fun k w => Mem w0 w No [] ∧ k ≤ xs.length ∧ ∀ (j : Nat) y, j < k → xs[j]? = some y → pred y = false) (fun k => xs.length - k) 0 (⟨hm, Nat.zero_le _, fun _ _ h => absurd h (Nat.not_lt_zero _)⟩) ⟨rfl, trivial⟩ (fun k w hM => ?_)
  obtain ⟨hm, hk, hno⟩ := hM
  refine HW_seq rfl ?_
  refine HW_text (.pure 0 .done) (by kernel_rfl) ?_
  refine rw_p rfl rfl (y_lt rfl rfl) ?_
  refine rw_done ?_
  refine gn_sq ?_
  refine HW_seq rfl ?_
  refine HW_cond rfl rfl (fun hc0 => ?_) (fun hc0 => ?_)
  ·
    simp only [decide_eq_true_eq] at hc0
    obtain ⟨x, hi⟩ : ∃ y_, xs[k]? = some y_ := ⟨_, List.getElem?_eq_getElem (by omega)⟩
    obtain ⟨qb, qo, rfl⟩ := hx.atI encR_len (by decide) hi
    refine HW_skip rfl ?_
    refine gn_sq ?_
    refine HW_seq rfl ?_
    refine HW_block rfl ?_
    refine HW_seq rfl ?_
    refine HW_text (.pure 0 (.pure 1 .done)) (by kernel_rfl) ?_
    refine rw_p rfl rfl (y_move rfl) ?_
    refine rw_p rfl rfl (y_assign rfl) ?_
    refine rw_done ?_
    refine gn_sq ?_
    refine HW_seq rfl ?_
    refine HW_text (.pure 0 (.pure 1 (.pure 2 (.pure 3 (.pure 4 (.act 5 .done)))))) (by kernel_rfl) ?_
    refine rw_p rfl rfl (y_move rfl) ?_
    refine rw_p rfl rfl (y_move rfl) ?_
    refine rw_p rfl rfl (y_move rfl) ?_
    refine rw_p rfl rfl (y_index rfl rfl sl70 rfl (by omega) (by omega)) ?_
    refine rw_p rfl rfl (y_elA rfl ag57 (hx.ext0 hm.to).nt encR_len hi) ?_
    refine a_callV rfl rfl rfl rfl hg (hf x _ (List.mem_of_getElem? hi) hm.to) fun v w hR => ?_
    obtain ⟨rfl, hE⟩ := hR
    refine ⟨trivial, ?_⟩
    replace hm := hm.ext hE
    refine rw_done ?_
    refine gn_sq ?_
    refine HW_cond rfl rfl (fun hc1 => ?_) (fun hc1 => ?_)
    ·
      refine HW_seq rfl ?_
      refine HW_text (.pure 0 (.pure 1 .done)) (by kernel_rfl) ?_
      refine rw_p rfl rfl (y_move rfl) ?_
      refine rw_p rfl rfl (y_assign rfl) ?_
      refine rw_done ?_
      refine gn_sq ?_
      refine HW_ret rfl ?_
      refine gr_bl (gr_sq (gr_lp (gr_bl (gr_sq ?_))))
      refine toR (fin hret rfl (.tmp rfl .nil) .one ?_)
      exact ⟨by rw [Pl.idx_first hi hc1 hno], hm.to⟩
    ·
      refine HW_skip rfl ?_
      refine gn_bl ?_
      refine gn_sq ?_
      refine HW_text (.pure 0 (.pure 1 .done)) (by kernel_rfl) ?_
      refine rw_p rfl rfl (y_add rfl rfl (i64w (by omega) (by omega))) ?_
      refine rw_p rfl rfl (y_move rfl) ?_
      refine rw_done ?_
      refine next (k + 1) (by omega) ⟨hm, by omega, fun j y hj hy => ?_⟩ ⟨nx k, rfl, rfl, rfl, trivial⟩
      rcases Nat.lt_or_ge j k with h | h
      · exact hno j y h hy
      · obtain rfl : j = k := by omega
        rw [hi] at hy; cases hy; exact hc1
  ·
    have hk : k = xs.length := by simp at hc0; omega
    subst hk
    refine HW_exit rfl ?_
    refine gx_sq (gx_lp ?_)
    refine gx_here ?_
    refine gn_sq ?_
    refine HW_seq rfl ?_
    refine HW_text (.pure 0 .done) (by kernel_rfl) ?_
    refine rw_p rfl rfl (y_assign rfl) ?_
    refine rw_done ?_
    refine gn_sq ?_
    refine HW_ret rfl ?_
    refine toR (fin hret rfl (.tmp rfl .nil) .one ?_)
    exact ⟨by rw [Pl.idx_none hno], hm.to⟩

theorem rec_newest1 (x : RcV) (k : Int) (m : Nat) (w0 : World) (hk : w0.heap[m]? = some (Blk.row 23 [.int .u64 k]).toObj) : C Tryz.prog 63 [.agg ⟨encR x⟩, .pointer (some ⟨m, 0, none⟩)] w0 fun v w' => v = .bool (decide (x.id ≠ k)) ∧ Ext No w0 w' := by
  refine C_of Tryz.func63 rfl rfl rfl fun κ hret hnorm => ?_
  have hm := Mem.start w0
  refine HW_seq rfl ?_
  refine HW_text (.act 0 (.pure 1 .done)) (by kernel_rfl) ?_
  refine a_box rfl rfl rfl rfl hm trivial fun m1 w hg_m1 hm hh => ?_
  refine rw_p rfl rfl (y_assign rfl) ?_
  refine rw_done ?_
  refine gn_sq ?_
  refine HW_seq rfl ?_
  refine HW_text (.pure 0 (.pure 1 (.pure 2 (.pure 3 (.pure 4 .done))))) (by kernel_rfl) ?_
  refine rw_p rfl rfl (y_fieldAddr rfl fo57_1) ?_
  refine rw_p rfl rfl (y_load rfl sc23 (hm.nt 0 rfl) rfl) ?_
  refine rw_p rfl rfl (y_load rfl sc23 (nowT ((hm.to.same _ (Array.getElem?_eq_some_iff.1 hk).1 id).trans hk)) rfl) ?_
  refine rw_p rfl rfl (y_ne rfl rfl) ?_
  refine rw_p rfl rfl (y_assign rfl) ?_
  refine rw_done ?_
  refine gn_sq ?_
  refine HW_ret rfl ?_
  refine toR (fin hret rfl (.tmp rfl .nil) .one ?_)
  exact ⟨by simp, hm.to⟩

theorem oneRc (l : List RcV) : (l.flatMap encR).all (·.oneCell') = true := by
  rw [List.all_flatMap]
  exact List.all_eq_true.2 fun x _ => rfl
theorem lenRc (l : List RcV) : (l.flatMap encR).length = l.length * 5 := by
  induction l with
  | nil => rfl
  | cons x r ih => rw [List.flatMap_cons, List.length_append, ih, List.length_cons]; show 5 + _ = _; omega
theorem nilRc {xs : List RcV} (h : xs.flatMap encR = []) : xs = [] := by
  cases xs with
  | nil => rfl
  | cons x r => simp [encR] at h

theorem clone_r (p : Option Addr) (cap : Nat) (xs : List RcV) (w0 : World) (hx : Rd w0 p (xs.flatMap encR)) (hlen : xs.length * 56 ≤ 140737488355328) : C Tryz.prog 62 [.slice p xs.length cap] w0 fun v w' => ∃ q c g b, v = .slice q xs.length c ∧ Acc 57 5 q xs.length c (xs.flatMap encR) g b ∧ Mem w0 w' No [(g, b)] := by
  refine C_of Tryz.func62 rfl rfl rfl fun κ hret hnorm => ?_
  have hm := Mem.start w0
  refine HW_seq rfl ?_
  refine HW_text (.pure 0 .done) (by kernel_rfl) ?_
  refine rw_p rfl rfl (y_assign rfl) ?_
  refine rw_done ?_
  refine gn_sq ?_
  refine HW_seq rfl ?_
  refine HW_seq rfl ?_
  refine HW_text (.pure 0 (.pure 1 .done)) (by kernel_rfl) ?_
  refine rw_p rfl rfl (y_move rfl) ?_
  refine rw_p rfl rfl (y_snil rfl rfl sb70) ?_
  refine rw_done ?_
  refine gn_sq ?_
  refine HW_cond rfl rfl (fun hc0 => ?_) (fun hc0 => ?_)
  ·
    obtain rfl : p = none := by simpa using hc0
    obtain rfl := nilRc hx
    refine HW_seq rfl ?_
    refine HW_text (.pure 0 .done) (by kernel_rfl) ?_
    refine rw_p rfl rfl (y_assign rfl) ?_
    refine rw_done ?_
    refine gn_sq ?_
    refine HW_ret rfl ?_
    refine gr_sq ?_
    refine toR (fin hret rfl (.tmp rfl .nil) .one ?_)
    exact ⟨none, 0, 0, .gap, rfl, .nil _ _ _ _, hm.gapIn⟩
  ·
    refine HW_skip rfl ?_
    refine gn_sq ?_
    refine HW_seq rfl ?_
    refine HW_text (.act 0 (.pure 1 (.act 2 (.pure 3 .done)))) (by kernel_rfl) ?_
    refine a_buildSlice (l := []) rfl rfl sl70 z57 rfl rfl rfl rfl rfl rfl rfl hm trivial fun m1 w hg_m1 hm hh => ?_
    refine rw_p rfl rfl (y_move rfl) ?_
    refine a_append rfl rfl rfl rfl rfl rfl sl70 sl70 z57 rfl (oneRc xs) (hx.ext0 hm.to) (lenRc xs) (Acc.row rfl) hm 0 rfl (by omega) (by omega) fun p_s1 cap_s1 g_s1 b_s1 w ha_s1 hm => ?_
    refine rw_p rfl rfl (y_assign rfl) ?_
    refine rw_done ?_
    refine gn_sq ?_
    refine HW_ret rfl ?_
    refine toR (fin hret rfl (.tmp rfl .nil) .one ?_)
    exact ⟨p_s1, cap_s1, g_s1, b_s1, by rw [Nat.zero_add], by simpa only [Nat.zero_add, List.nil_append] using ha_s1, hm⟩

/-- the place of the first record of number k that has the greatest sequence number, and -1 if there is none -/
def newJ (k : Int) : List RcV → Nat → Int × Int → Int × Int
  | [], _, b => b
  | x :: r, i, b => newJ k r (i + 1) (if x.id = k ∧ (b.1 < 0 ∨ b.2 < x.sq) then ((i : Int), x.sq) else b)
def newI (k : Int) (xs : List RcV) : Int × Int := newJ k xs 0 (-1, 0)
theorem newJ_snoc (k : Int) (e : RcV) : ∀ (xs : List RcV) (i : Nat) (b : Int × Int), newJ k (xs ++ [e]) i b = (if e.id = k ∧ ((newJ k xs i b).1 < 0 ∨ (newJ k xs i b).2 < e.sq) then (((i + xs.length : Nat) : Int), e.sq) else newJ k xs i b)
  | [], i, b => rfl
  | x :: r, i, b => by
    show newJ k (r ++ [e]) (i + 1) _ = _
    rw [newJ_snoc k e r (i + 1)]
    rw [show i + 1 + r.length = i + (x :: r).length by simp only [List.length_cons]; omega]
    rfl
theorem newI_next {k : Int} {xs : List RcV} {i : Nat} {e : RcV} (h : xs[i]? = some e) : newI k (xs.take (i + 1)) = if e.id = k ∧ ((newI k (xs.take i)).1 < 0 ∨ (newI k (xs.take i)).2 < e.sq) then ((i : Int), e.sq) else newI k (xs.take i) := by
  have hl := (List.getElem?_eq_some_iff.1 h).1
  unfold newI
  rw [List.take_add_one, h, Option.toList, newJ_snoc, List.length_take, Nat.min_eq_left (by omega), Nat.zero_add]
theorem newI_at {k : Int} : ∀ (xs : List RcV) (i : Nat), i ≤ xs.length → (newI k (xs.take i)).1 = -1 ∨ ∃ (j : Nat) (e : RcV), j < i ∧ (newI k (xs.take i)).1 = (j : Int) ∧ xs[j]? = some e ∧ e.sq = (newI k (xs.take i)).2
  | xs, 0, _ => .inl rfl
  | xs, i + 1, h => by
    obtain ⟨e, he⟩ : ∃ e, xs[i]? = some e := ⟨_, List.getElem?_eq_getElem (by omega)⟩
    rw [newI_next he]
    split
    · exact .inr ⟨i, e, by omega, rfl, he, rfl⟩
    · rcases newI_at xs i (by omega) with h1 | ⟨j, e1, h1, h2, h3, h4⟩
      · exact .inl h1
      · exact .inr ⟨j, e1, by omega, h2, h3, h4⟩

def newR (k : Int) (xs : List RcV) : RcV := if (newI k xs).1 < 0 then zeroR else xs.getD (newI k xs).1.toNat zeroR

set_option maxHeartbeats 1600000 in
theorem r21_newest (k : Int) (p : Option Addr) (cap : Nat) (xs : List RcV) (w0 : World) (hx : Rd w0 p (xs.flatMap encR)) (hl : xs.length ≤ 9223372036854775807) : C Tryz.prog 33 [.int .u64 k, .slice p xs.length cap] w0 fun v w' => v = .tuple ⟨[.agg ⟨encR (newR k xs)⟩, .bool (decide (0 ≤ (newI k xs).1))]⟩ ∧ Ext No w0 w' := by
  refine C_of Tryz.func33 rfl rfl rfl fun κ hret hnorm => ?_
  have hm := Mem.start w0
  refine HW_seq rfl ?_
  refine HW_text (.act 0 (.pure 1 .done)) (by kernel_rfl) ?_
  refine a_alloc rfl rfl z78 hm trivial fun m1 w hg_m1 hm hh => ?_
  refine rw_p rfl rfl (y_assign rfl) ?_
  refine rw_done ?_
  refine gn_sq ?_
  refine HW_seq rfl ?_
  refine HW_text (.pure 0 .done) (by kernel_rfl) ?_
  refine rw_p rfl rfl (y_assign rfl) ?_
  refine rw_done ?_
  refine gn_sq ?_
  refine HW_seq rfl ?_
  refine HW_seq rfl ?_
  refine HW_text (.pure 0 .done) (by kernel_rfl) ?_
  refine rw_p rfl rfl (y_assign rfl) ?_
  refine rw_done ?_
  refine gn_sq ?_
  refine HW_block rfl ?_
  refine HW_loopK (ι := Nat) rfl (ks := [0, 1, 4, 5]) (.cons rfl (.cons rfl (.cons rfl (.cons rfl .nil)))) (fun x => [(7, .int .i64 x), (6, .int .i64 (newI k (xs.take x)).1)]) (fun x w => Mem w0 w No [(m1, .row 78 [.int .u64 0, .int .u64 0, .int .i64 0, .int .i64 0, .slice none 0 0])] ∧ x ≤ xs.length) (fun x => xs.length - x) 0 (⟨(hm.pick [0] rfl), Nat.zero_le _⟩) ⟨rfl, rfl, trivial⟩ (fun x w hM => ?_)
  obtain ⟨hm, hk⟩ := hM
  refine HW_seq rfl ?_
  refine HW_seq rfl ?_
  refine HW_text (.pure 0 (.pure 1 (.pure 2 (.pure 3 .done)))) (by kernel_rfl) ?_
  refine rw_p rfl rfl (y_move rfl) ?_
  refine rw_p rfl rfl (y_move rfl) ?_
  refine rw_p rfl rfl (y_len rfl rfl sl81) ?_
  refine rw_p rfl rfl (y_lt rfl rfl) ?_
  refine rw_done ?_
  refine gn_sq ?_
  refine HW_cond rfl rfl (fun hc0 => ?_) (fun hc0 => ?_)
  ·
    simp only [decide_eq_true_eq] at hc0
    obtain ⟨e, hi⟩ : ∃ y_, xs[x]? = some y_ := ⟨_, List.getElem?_eq_getElem (by omega)⟩
    obtain ⟨qb, qo, rfl⟩ := hx.atI encR_len (by decide) hi
    have hni := newI_next (k := k) hi
    refine HW_skip rfl ?_
    refine gn_sq ?_
    refine HW_seq rfl ?_
    refine HW_block rfl ?_
    refine HW_seq rfl ?_
    have hat := newI_at (k := k) xs x (by omega)
    rcases (show e.id ≠ k ∨ (e.id = k ∧ (newI k (xs.take x)).1 < 0) ∨ (e.id = k ∧ ¬ (newI k (xs.take x)).1 < 0) by by_cases h1 : e.id = k <;> by_cases h2 : (newI k (xs.take x)).1 < 0 <;> simp [h1, h2]) with hid | ⟨hid, hb0⟩ | ⟨hid, hb0⟩
    ·
      rw [if_neg (fun h => hid h.1)] at hni
      refine HW_draw (.pure 0 (.pure 1 (.pure 2 (.pure 3 (.pure 4 (.pure 5 (.pure 6 (.pure 7 (.pure 8 (.pure 9 (.pure 10 (.pure 11 (.pure 12 (.pure 13 (.pure 14 (.pure 15 (.pure 16 (.pure 17 (.pure 18 (.pure 19 (.pure 20 (.pure 21 (.pure 22 (.pure 23 .done)))))))))))))))))))))))) No mix (by kernel_rfl) hm fun w hw hm0 hh => ?_
      have hm := hm0
      refine rw_p rfl rfl (y_move rfl) ?_
      refine rw_p rfl rfl (y_move rfl) ?_
      refine rw_p rfl rfl (y_index rfl rfl sl81 rfl (by omega) (by omega)) ?_
      refine rw_p rfl rfl (y_fieldAddr rfl fo78_1) ?_
      refine rw_p rfl rfl (y_elS rfl sc23 (hx.ext0 hm0.to).nd encR_len hi rfl) ?_
      refine rw_p rfl rfl (y_move rfl) ?_
      refine rw_p rfl rfl (y_as (c := false) (y_eq rfl rfl) (decide_eq_false hid)) ?_
      refine rw_p rfl rfl (y_move rfl) ?_
      refine rw_gf rfl rfl (by decide) rfl ?_
      refine rw_gf rfl rfl (by decide) rfl ?_
      refine rw_gf rfl rfl (by decide) rfl ?_
      refine rw_gu rfl rfl rfl ?_
      refine rw_gu rfl rfl rfl ?_
      refine rw_gu rfl rfl rfl ?_
      refine rw_gu rfl rfl rfl ?_
      refine rw_gu rfl rfl rfl ?_
      refine rw_gu rfl rfl rfl ?_
      refine rw_gu rfl rfl rfl ?_
      refine rw_gu rfl rfl rfl ?_
      refine rw_gu rfl rfl rfl ?_
      refine rw_gu rfl rfl rfl ?_
      refine rw_gu rfl rfl rfl ?_
      refine rw_gf rfl rfl (by decide) rfl ?_
      refine rw_p rfl rfl (y_pickF rfl rfl) ?_
      refine rw_done ?_
      refine gn_sq ?_
      refine HW_condF rfl rfl rfl ?_
      refine HW_skip rfl ?_
      refine gn_bl ?_
      refine gn_sq ?_
      refine HW_text (.pure 0 (.pure 1 (.pure 2 .done))) (by kernel_rfl) ?_
      refine rw_p rfl rfl (y_move rfl) ?_
      refine rw_p rfl rfl (y_add rfl rfl (i64w (by omega) (by omega))) ?_
      refine rw_p rfl rfl (y_assign rfl) ?_
      refine rw_done ?_
      refine next (x + 1) (by omega) ⟨(hm.pick [0] rfl), by omega⟩ ⟨nx x, by rw [hni] <;> first | rfl | (rw [hj2]; rfl), rfl, rfl, rfl, rfl, trivial⟩
    ·
      rw [if_pos ⟨hid, .inl hb0⟩] at hni
      refine HW_draw (.pure 0 (.pure 1 (.pure 2 (.pure 3 (.pure 4 (.pure 5 (.pure 6 (.pure 7 (.pure 8 (.pure 9 (.pure 10 (.pure 11 (.pure 12 (.pure 13 (.pure 14 (.pure 15 (.pure 16 (.pure 17 (.pure 18 (.pure 19 (.pure 20 (.pure 21 (.pure 22 (.pure 23 .done)))))))))))))))))))))))) No mix (by kernel_rfl) hm fun w hw hm0 hh => ?_
      have hm := hm0
      refine rw_p rfl rfl (y_move rfl) ?_
      refine rw_p rfl rfl (y_move rfl) ?_
      refine rw_p rfl rfl (y_index rfl rfl sl81 rfl (by omega) (by omega)) ?_
      refine rw_p rfl rfl (y_fieldAddr rfl fo78_1) ?_
      refine rw_p rfl rfl (y_elS rfl sc23 (hx.ext0 hm0.to).nd encR_len hi rfl) ?_
      refine rw_p rfl rfl (y_move rfl) ?_
      refine rw_p rfl rfl (y_as (c := true) (y_eq rfl rfl) (decide_eq_true hid)) ?_
      refine rw_p rfl rfl (y_move rfl) ?_
      refine rw_p rfl rfl (y_move rfl) ?_
      refine rw_p rfl rfl (y_as (c := true) (y_lt rfl rfl) (decide_eq_true hb0)) ?_
      refine rw_p rfl rfl (y_move rfl) ?_
      refine rw_gf rfl rfl (by decide) rfl ?_
      refine rw_gf rfl rfl (by decide) rfl ?_
      refine rw_gf rfl rfl (by decide) rfl ?_
      refine rw_gf rfl rfl (by decide) rfl ?_
      refine rw_gf rfl rfl (by decide) rfl ?_
      refine rw_gf rfl rfl (by decide) rfl ?_
      refine rw_gf rfl rfl (by decide) rfl ?_
      refine rw_gf rfl rfl (by decide) rfl ?_
      refine rw_gf rfl rfl (by decide) rfl ?_
      refine rw_gf rfl rfl (by decide) rfl ?_
      refine rw_gf rfl rfl (by decide) rfl ?_
      refine rw_p rfl rfl (y_pickT rfl rfl) ?_
      refine rw_p rfl rfl (y_pickT rfl rfl) ?_
      refine rw_done ?_
      refine gn_sq ?_
      refine HW_condT rfl rfl rfl ?_
      refine HW_text (.pure 0 (.pure 1 .done)) (by kernel_rfl) ?_
      refine rw_p rfl rfl (y_move rfl) ?_
      refine rw_p rfl rfl (y_assign rfl) ?_
      refine rw_done ?_
      refine gn_bl ?_
      refine gn_sq ?_
      refine HW_text (.pure 0 (.pure 1 (.pure 2 .done))) (by kernel_rfl) ?_
      refine rw_p rfl rfl (y_move rfl) ?_
      refine rw_p rfl rfl (y_add rfl rfl (i64w (by omega) (by omega))) ?_
      refine rw_p rfl rfl (y_assign rfl) ?_
      refine rw_done ?_
      refine next (x + 1) (by omega) ⟨(hm.pick [0] rfl), by omega⟩ ⟨nx x, by rw [hni] <;> first | rfl | (rw [hj2]; rfl), rfl, rfl, rfl, rfl, trivial⟩
    ·
      obtain ⟨j, e2, hj1, hj2, hj3, hj4⟩ := hat.resolve_left (by omega)
      rw [hj2] at hb0 ⊢
      rw [← hj4] at hni
      refine HW_draw (.pure 0 (.pure 1 (.pure 2 (.pure 3 (.pure 4 (.pure 5 (.pure 6 (.pure 7 (.pure 8 (.pure 9 (.pure 10 (.pure 11 (.pure 12 (.pure 13 (.pure 14 (.pure 15 (.pure 16 (.pure 17 (.pure 18 (.pure 19 (.pure 20 (.pure 21 (.pure 22 (.pure 23 .done)))))))))))))))))))))))) No mix (by kernel_rfl) hm fun w hw hm0 hh => ?_
      have hm := hm0
      refine rw_p rfl rfl (y_move rfl) ?_
      refine rw_p rfl rfl (y_move rfl) ?_
      refine rw_p rfl rfl (y_index rfl rfl sl81 rfl (by omega) (by omega)) ?_
      refine rw_p rfl rfl (y_fieldAddr rfl fo78_1) ?_
      refine rw_p rfl rfl (y_elS rfl sc23 (hx.ext0 hm0.to).nd encR_len hi rfl) ?_
      refine rw_p rfl rfl (y_move rfl) ?_
      refine rw_p rfl rfl (y_as (c := true) (y_eq rfl rfl) (decide_eq_true hid)) ?_
      refine rw_p rfl rfl (y_move rfl) ?_
      refine rw_p rfl rfl (y_move rfl) ?_
      refine rw_p rfl rfl (y_as (c := false) (y_lt rfl rfl) (decide_eq_false hb0)) ?_
      refine rw_p rfl rfl (y_move rfl) ?_
      refine rw_p rfl rfl (y_move rfl) ?_
      refine rw_p rfl rfl (y_move rfl) ?_
      refine rw_p rfl rfl (y_index rfl rfl sl81 rfl (by omega) (by omega)) ?_
      refine rw_p rfl rfl (y_fieldAddr rfl fo78_0) ?_
      refine rw_p rfl rfl (y_elS rfl sc23 (hx.ext0 hm0.to).nd encR_len hi rfl) ?_
      refine rw_p rfl rfl (y_move rfl) ?_
      refine rw_p rfl rfl (y_move rfl) ?_
      refine rw_p rfl rfl (y_index rfl rfl sl81 rfl (by omega) (by omega)) ?_
      refine rw_p rfl rfl (y_fieldAddr rfl fo78_0) ?_
      refine rw_p rfl rfl (y_elS rfl sc23 (hx.ext0 hm0.to).nd encR_len hj3 rfl) ?_
      refine rw_p rfl rfl (y_gt rfl rfl) ?_
      refine rw_p rfl rfl (y_pickF rfl rfl) ?_
      refine rw_p rfl rfl (y_pickT rfl rfl) ?_
      refine rw_done ?_
      refine gn_sq ?_
      refine HW_cond rfl rfl (fun hc1 => ?_) (fun hc1 => ?_)
      ·
        simp only [decide_eq_true_eq] at hc1
        rw [if_pos ⟨hid, .inr hc1⟩] at hni
        refine HW_text (.pure 0 (.pure 1 .done)) (by kernel_rfl) ?_
        refine rw_p rfl rfl (y_move rfl) ?_
        refine rw_p rfl rfl (y_assign rfl) ?_
        refine rw_done ?_
        refine gn_bl ?_
        refine gn_sq ?_
        refine HW_text (.pure 0 (.pure 1 (.pure 2 .done))) (by kernel_rfl) ?_
        refine rw_p rfl rfl (y_move rfl) ?_
        refine rw_p rfl rfl (y_add rfl rfl (i64w (by omega) (by omega))) ?_
        refine rw_p rfl rfl (y_assign rfl) ?_
        refine rw_done ?_
        refine next (x + 1) (by omega) ⟨(hm.pick [0] rfl), by omega⟩ ⟨nx x, by rw [hni] <;> first | rfl | (rw [hj2]; rfl), rfl, rfl, rfl, rfl, trivial⟩
      ·
        simp only [decide_eq_false_iff_not] at hc1
        rw [if_neg (by rintro ⟨_, h | h⟩ <;> omega)] at hni
        refine HW_skip rfl ?_
        refine gn_bl ?_
        refine gn_sq ?_
        refine HW_text (.pure 0 (.pure 1 (.pure 2 .done))) (by kernel_rfl) ?_
        refine rw_p rfl rfl (y_move rfl) ?_
        refine rw_p rfl rfl (y_add rfl rfl (i64w (by omega) (by omega))) ?_
        refine rw_p rfl rfl (y_assign rfl) ?_
        refine rw_done ?_
        refine next (x + 1) (by omega) ⟨(hm.pick [0] rfl), by omega⟩ ⟨nx x, by rw [hni] <;> first | rfl | (rw [hj2]; rfl), rfl, rfl, rfl, rfl, trivial⟩
  ·
    simp only [decide_eq_false_iff_not] at hc0
    have hke : x = xs.length := by omega
    refine HW_exit rfl ?_
    refine gx_sq (gx_lp ?_)
    refine gx_here ?_
    refine gn_sq ?_
    refine HW_seq rfl ?_
    refine HW_seq rfl ?_
    have hat := newI_at (k := k) xs x (by omega)
    rw [hke, List.take_length] at hat ⊢
    by_cases hb0 : (newI k xs).1 < 0
    ·
      refine HW_text (.pure 0 (.pure 1 .done)) (by kernel_rfl) ?_
      refine rw_p rfl rfl (y_move rfl) ?_
      refine rw_p rfl rfl (y_as (c := true) (y_lt rfl rfl) (decide_eq_true hb0)) ?_
      refine rw_done ?_
      refine gn_sq ?_
      refine HW_condT rfl rfl rfl ?_
      refine HW_seq rfl ?_
      refine HW_text (.pure 0 (.act 1 (.pure 2 .done))) (by kernel_rfl) ?_
      refine rw_p rfl rfl (y_build (cs := [_, _, _, _, _]) z78 ft78 rfl rfl rfl rfl rfl) ?_
      refine a_store rfl rfl rfl rfl sz78 rfl hm 0 rfl rfl fun w hm => ?_
      refine rw_p rfl rfl (y_assign rfl) ?_
      refine rw_done ?_
      refine gn_sq ?_
      refine HW_ret rfl ?_
      refine gr_sq ?_
      refine toR (fin hret rfl (.cell rfl (run_loadVar_a (vs := [_, _, _, _, _]) ag78 (hm.get (k := 0) rfl) rfl) (.tmp rfl .nil)) .more ?_)
      exact ⟨by rw [decide_eq_false (by omega)]; unfold newR; rw [if_pos hb0]; rfl, hm.to⟩
    ·
      obtain ⟨j, e2, hj1, hj2, hj3, hj4⟩ := hat.resolve_left (by omega)
      have hnr : newR k xs = e2 := by unfold newR; rw [if_neg hb0, hj2, Int.toNat_natCast, List.getD_eq_getElem?_getD, hj3]; rfl
      obtain ⟨qb2, qo2, rfl⟩ := hx.atI encR_len (by decide) hj3
      rw [hj2]
      refine HW_text (.pure 0 (.pure 1 .done)) (by kernel_rfl) ?_
      refine rw_p rfl rfl (y_move rfl) ?_
      refine rw_p rfl rfl (y_as (c := false) (y_lt rfl rfl) (decide_eq_false (by omega))) ?_
      refine rw_done ?_
      refine gn_sq ?_
      refine HW_condF rfl rfl rfl ?_
      refine HW_skip rfl ?_
      refine gn_sq ?_
      refine HW_seq rfl ?_
      refine HW_text (.pure 0 (.pure 1 (.pure 2 (.pure 3 (.act 4 (.pure 5 .done)))))) (by kernel_rfl) ?_
      refine rw_p rfl rfl (y_move rfl) ?_
      refine rw_p rfl rfl (y_move rfl) ?_
      refine rw_p rfl rfl (y_index rfl rfl sl81 rfl (by omega) (by omega)) ?_
      refine rw_p rfl rfl (y_elA rfl ag78 (hx.ext0 hm.to).nt encR_len hj3) ?_
      refine a_store rfl rfl rfl rfl sz78 rfl hm 0 rfl rfl fun w hm => ?_
      refine rw_p rfl rfl (y_assign rfl) ?_
      refine rw_done ?_
      refine gn_sq ?_
      refine HW_ret rfl ?_
      refine toR (fin hret rfl (.cell rfl (run_loadVar_a (vs := [_, _, _, _, _]) ag78 (hm.get (k := 0) rfl) rfl) (.tmp rfl .nil)) .more ?_)
      exact ⟨by rw [hnr, decide_eq_true (by omega)]; rfl, hm.to⟩

set_option maxHeartbeats 800000 in
theorem del_r (p_s : Option Addr) (cap_s : Nat) (xs : List RcV) (g_s : Nat) (b_s : Blk) (fi : FuncId) (l2 : List Value) (pred : RcV → Bool) (w0 : World) (ha_s : Acc 57 5 p_s xs.length cap_s (xs.flatMap encR) g_s b_s) (hb_s : b_s.real = true → w0.heap[g_s]? = some b_s.toObj) (hlen : xs.length ≤ 4611686018427387903) (hg : isGo Tryz.prog fi = true) (hf : ∀ x w1, Ext (fun k => k = g_s ∧ b_s.real = true) w0 w1 → C Tryz.prog fi (.agg ⟨encR x⟩ :: l2) w1 fun v w2 => v = .bool (pred x) ∧ Ext No w1 w2) : C Tryz.prog 61 [.slice p_s xs.length cap_s, .func (.func fi) #[] ⟨l2⟩] w0 fun v w' => ∃ b', v = .slice p_s (xs.filter fun x => !pred x).length cap_s ∧ Acc 57 5 p_s (xs.filter fun x => !pred x).length cap_s ((xs.filter fun x => !pred x).flatMap encR) g_s b' ∧ Mem w0 w' (fun k => k = g_s ∧ b_s.real = true) [(g_s, b')] := by
  refine C_of Tryz.func61 rfl rfl rfl fun κ hret hnorm => ?_
  have hm := Mem.startB hb_s
  refine HW_seq rfl ?_
  refine HW_text (.pure 0 .done) (by kernel_rfl) ?_
  refine rw_p rfl rfl (y_assign rfl) ?_
  refine rw_done ?_
  refine gn_sq ?_
  refine HW_seq rfl ?_
  refine HW_text (.pure 0 (.pure 1 (.act 2 (.pure 3 .done)))) (by kernel_rfl) ?_
  refine rw_p rfl rfl (y_move rfl) ?_
  refine rw_p rfl rfl (y_move rfl) ?_
  refine a_call rfl rfl rfl go97 (idxf_r p_s cap_s xs fi l2 pred _ (ha_s.rd hm 0 rfl) (by omega) hg (fun x w1 hx hE => hf x w1 (hm.to.trans hE.weak))) fun v w hR => ?_
  obtain ⟨rfl, hE⟩ := hR
  refine ⟨trivial, ?_⟩
  replace hm := hm.ext hE
  refine rw_p rfl rfl (y_assign rfl) ?_
  refine rw_done ?_
  refine gn_sq ?_
  refine HW_seq rfl ?_
  refine HW_seq rfl ?_
  refine HW_text (.pure 0 (.pure 1 .done)) (by kernel_rfl) ?_
  refine rw_p rfl rfl (y_move rfl) ?_
  refine rw_p rfl rfl (y_eq rfl rfl) ?_
  refine rw_done ?_
  refine gn_sq ?_
  refine HW_cond rfl rfl (fun hc0 => ?_) (fun hc0 => ?_)
  ·
    simp only [decide_eq_true_eq] at hc0
    have hall : (xs.filter fun x => !pred x) = xs := by rcases idx_case pred xs with ⟨_, h⟩ | ⟨i, x, h, _⟩; exact h; omega
    refine HW_seq rfl ?_
    refine HW_text (.pure 0 (.pure 1 .done)) (by kernel_rfl) ?_
    refine rw_p rfl rfl (y_move rfl) ?_
    refine rw_p rfl rfl (y_assign rfl) ?_
    refine rw_done ?_
    refine gn_sq ?_
    refine HW_ret rfl ?_
    refine gr_sq ?_
    refine toR (fin hret rfl (.tmp rfl .nil) .one ?_)
    exact ⟨b_s, by rw [hall], by rw [hall]; exact ha_s, (hm.pick [0] rfl)⟩
  ·
    simp only [decide_eq_false_iff_not] at hc0
    obtain ⟨i0, x0, hi0, hx0, hp0, ht0⟩ := (idx_case pred xs).resolve_left (fun h => hc0 h.1)
    have hl0 := (List.getElem?_eq_some_iff.1 hx0).1
    rw [hi0]
    obtain rfl := ha_s.ptr (by omega)
    have hI0 := DelI.start hx0 hp0 ht0
    refine HW_skip rfl ?_
    refine gn_sq ?_
    refine HW_seq rfl ?_
    refine HW_seq rfl ?_
    refine HW_text (.pure 0 (.pure 1 (.pure 2 .done))) (by kernel_rfl) ?_
    refine rw_p rfl rfl (y_move rfl) ?_
    refine rw_p rfl rfl (y_add rfl rfl (i64w (by omega) (by omega))) ?_
    refine rw_p rfl rfl (y_assign rfl) ?_
    refine rw_done ?_
    refine gn_sq ?_
    refine HW_block rfl ?_
    refine HW_loopK (ι := Nat × Nat × Blk × List RcV) rfl (ks := [0, 1, 4]) (.cons rfl (.cons rfl (.cons rfl .nil))) (fun x => [(6, .int .i64 x.1), (5, .int .i64 x.2.1)]) (fun x w => Mem w0 w (fun k => k = g_s ∧ b_s.real = true) [(g_s, x.2.2.1)] ∧ Acc 57 5 (some ⟨g_s, 0, none⟩) xs.length cap_s (x.2.2.2.flatMap encR) g_s x.2.2.1 ∧ DelI pred xs x.1 x.2.1 x.2.2.2) (fun x => xs.length - x.1) (i0 + 1, i0, b_s, xs) (⟨(hm.pick [0] rfl), ha_s, hI0⟩) ⟨nx i0, rfl, trivial⟩ (fun x w hM => ?_)
    obtain ⟨hm, ha_s, hI⟩ := hM
    refine HW_seq rfl ?_
    refine HW_seq rfl ?_
    refine HW_text (.pure 0 (.pure 1 (.pure 2 (.pure 3 .done)))) (by kernel_rfl) ?_
    refine rw_p rfl rfl (y_move rfl) ?_
    refine rw_p rfl rfl (y_move rfl) ?_
    refine rw_p rfl rfl (y_len rfl rfl sl70) ?_
    refine rw_p rfl rfl (y_lt rfl rfl) ?_
    refine rw_done ?_
    refine gn_sq ?_
    refine HW_cond rfl rfl (fun hc1 => ?_) (fun hc1 => ?_)
    ·
      simp only [decide_eq_true_eq] at hc1
      have hzl := hI.len
      have hlt := hI.lt
      obtain ⟨e, hi⟩ : ∃ y_, x.2.2.2[x.1]? = some y_ := ⟨_, List.getElem?_eq_getElem (by omega)⟩
      refine HW_skip rfl ?_
      refine gn_sq ?_
      refine HW_seq rfl ?_
      refine HW_block rfl ?_
      refine HW_seq rfl ?_
      refine HW_text (.pure 0 (.pure 1 (.pure 2 (.pure 3 (.act 4 (.act 5 .done)))))) (by kernel_rfl) ?_
      refine rw_p rfl rfl (y_move rfl) ?_
      refine rw_p rfl rfl (y_move rfl) ?_
      refine rw_p rfl rfl (y_index rfl rfl sl70 rfl (by omega) (by omega)) ?_
      refine rw_p rfl rfl (y_elA rfl ag57 (ha_s.rd hm 0 rfl).nt encR_len hi) ?_
      refine a_alloc rfl rfl z57 hm trivial fun m1 w hg_m1 hm hh => ?_
      refine a_store rfl rfl rfl rfl sz57 rfl hm 0 rfl rfl fun w hm => ?_
      refine rw_done ?_
      refine gn_sq ?_
      refine HW_seq rfl ?_
      refine HW_text (.pure 0 (.pure 1 (.act 2 (.pure 3 .done)))) (by kernel_rfl) ?_
      refine rw_p rfl rfl (y_move rfl) ?_
      refine rw_p rfl rfl (y_loadA (s := 5) (vs := [_, _, _, _, _]) rfl ag57 (hm.nt 0 rfl) rfl) ?_
      refine a_callV rfl rfl rfl rfl hg (hf e _ hm.to) fun v w hR => ?_
      obtain ⟨rfl, hE⟩ := hR
      refine ⟨trivial, ?_⟩
      replace hm := hm.ext hE
      refine rw_p rfl rfl (y_not rfl) ?_
      refine rw_done ?_
      refine gn_sq ?_
      refine HW_cond rfl rfl (fun hc2 => ?_) (fun hc2 => ?_)
      ·
        simp only [Bool.not_eq_true'] at hc2
        refine HW_seq rfl ?_
        refine HW_text (.pure 0 (.pure 1 (.pure 2 (.pure 3 (.act 4 .done))))) (by kernel_rfl) ?_
        refine rw_p rfl rfl (y_move rfl) ?_
        refine rw_p rfl rfl (y_move rfl) ?_
        refine rw_p rfl rfl (y_loadA (s := 5) (vs := [_, _, _, _, _]) rfl ag57 (hm.nt 0 rfl) rfl) ?_
        refine rw_p rfl rfl (y_index rfl rfl sl70 rfl (by omega) (by omega)) ?_
        refine a_storeE rfl rfl rfl rfl sz57 rfl rfl ha_s (by omega) hm 1 rfl fun b_s w ha_s hm => ?_
        replace ha_s := ha_s.to (upds_fm encR_len (by omega) e)
        refine rw_done ?_
        refine gn_sq ?_
        refine HW_text (.pure 0 (.pure 1 (.pure 2 .done))) (by kernel_rfl) ?_
        refine rw_p rfl rfl (y_move rfl) ?_
        refine rw_p rfl rfl (y_add rfl rfl (i64w (by omega) (by omega))) ?_
        refine rw_p rfl rfl (y_assign rfl) ?_
        refine rw_done ?_
        refine gn_bl ?_
        refine gn_sq ?_
        refine HW_text (.pure 0 (.pure 1 (.pure 2 .done))) (by kernel_rfl) ?_
        refine rw_p rfl rfl (y_move rfl) ?_
        refine rw_p rfl rfl (y_add rfl rfl (i64w (by omega) (by omega))) ?_
        refine rw_p rfl rfl (y_assign rfl) ?_
        refine rw_done ?_
        refine next (x.1 + 1, x.2.1 + 1, b_s, x.2.2.2.set x.2.1 e) (by simp only; omega) ⟨(hm.pick [1] rfl), ha_s, hI.put hi hc2⟩ ⟨nx x.1, nx x.2.1, rfl, rfl, rfl, trivial⟩
      ·
        simp only [Bool.not_eq_false'] at hc2
        refine HW_skip rfl ?_
        refine gn_bl ?_
        refine gn_sq ?_
        refine HW_text (.pure 0 (.pure 1 (.pure 2 .done))) (by kernel_rfl) ?_
        refine rw_p rfl rfl (y_move rfl) ?_
        refine rw_p rfl rfl (y_add rfl rfl (i64w (by omega) (by omega))) ?_
        refine rw_p rfl rfl (y_assign rfl) ?_
        refine rw_done ?_
        refine next (x.1 + 1, x.2.1, x.2.2.1, x.2.2.2) (by simp only; omega) ⟨(hm.pick [1] rfl), ha_s, hI.skip hi hc2⟩ ⟨nx x.1, rfl, rfl, rfl, rfl, trivial⟩
    ·
      simp only [decide_eq_false_iff_not] at hc1
      obtain ⟨hd1, hd2, hd3⟩ := hI.done (by omega)
      refine HW_exit rfl ?_
      refine gx_sq (gx_lp ?_)
      refine gx_here ?_
      refine gn_sq ?_
      refine HW_seq rfl ?_
      refine HW_text (.pure 0 (.pure 1 (.pure 2 (.act 3 .done)))) (by kernel_rfl) ?_
      refine rw_p rfl rfl (y_move rfl) ?_
      refine rw_p rfl rfl (y_move rfl) ?_
      refine rw_p rfl rfl (y_slice (ln := x.2.1) (hn := xs.length) rfl sl70 ⟨_, rfl⟩ rfl (by omega) (by have := ha_s.le; omega) (fun _ ad e => by cases e; rfl)) ?_
      refine a_clearL rfl rfl sl70 z57 rfl (by decide) rfl (by omega) ha_s hm 0 rfl fun b_s w ha_s hm => ?_
      refine rw_done ?_
      refine gn_sq ?_
      refine HW_seq rfl ?_
      refine HW_text (.pure 0 (.pure 1 (.pure 2 (.pure 3 .done)))) (by kernel_rfl) ?_
      refine rw_p rfl rfl (y_move rfl) ?_
      refine rw_p rfl rfl (y_move rfl) ?_
      refine rw_p rfl rfl (y_slice (ln := 0) (hn := x.2.1) rfl sl70 rfl ⟨_, rfl⟩ (by omega) (by have := ha_s.le; omega) (fun _ ad e => by cases e; rfl)) ?_
      refine rw_p rfl rfl (y_assign rfl) ?_
      refine rw_done ?_
      refine gn_sq ?_
      refine HW_ret rfl ?_
      refine toR (fin hret rfl (.tmp rfl .nil) .one ?_)
      exact ⟨b_s, by rw [hd2, slp_zero (fun a e => by cases e; rfl)]; rfl, by rw [hd2]; exact (ha_s.head hd3).to ((take_upds _ _ _).trans ((take_fm encR_len _ _).trans (by rw [hd1]))), (hm.pick [0] rfl)⟩

theorem bestR_mem : ∀ {F : List RcV}, F ≠ [] → bestR F ∈ F := by
  intro F h
  cases F with
  | nil => exact absurd rfl h
  | cons x r =>
    show r.foldl _ x ∈ _
    have : ∀ (r : List RcV) (b : RcV), r.foldl (fun b y => if b.sq < y.sq then y else b) b = b ∨ r.foldl (fun b y => if b.sq < y.sq then y else b) b ∈ r := by
      intro r
      induction r with
      | nil => intro b; exact .inl rfl
      | cons y r ih =>
        intro b
        rw [List.foldl_cons]
        rcases ih (if b.sq < y.sq then y else b) with h1 | h1
        · rw [h1]; split
          · exact .inr (by simp)
          · exact .inl rfl
        · exact .inr (List.mem_cons_of_mem _ h1)
    rcases this r x with h1 | h1
    · rw [h1]; simp
    · exact List.mem_cons_of_mem _ h1
theorem bestR_rd {xs : List RcV} {w : World} {k : Int} (hd : ∀ x ∈ xs, Rd w x.d.p (x.d.bs.flatMap encB) ∧ x.d.bs.length ≤ 140737488355328) : Rd w (bestR (xs.filter fun x => decide (x.id = k))).d.p ((bestR (xs.filter fun x => decide (x.id = k))).d.bs.flatMap encB) ∧ (bestR (xs.filter fun x => decide (x.id = k))).d.bs.length ≤ 140737488355328 := by
  by_cases h : (xs.filter fun x => decide (x.id = k)) = []
  · rw [h]; exact ⟨rfl, by decide⟩
  · exact hd _ (List.mem_filter.1 (bestR_mem h)).1

set_option maxHeartbeats 800000 in
theorem rec_newest (k : Int) (p : Option Addr) (cap : Nat) (xs : List RcV) (w0 : World) (hx : Rd w0 p (xs.flatMap encR)) (hlen : xs.length ≤ 1048576) (hd : ∀ x ∈ xs, Rd w0 x.d.p (x.d.bs.flatMap encB) ∧ x.d.bs.length ≤ 140737488355328) : C Tryz.prog 28 [.int .u64 k, .slice p xs.length cap] w0 fun v w' => ∃ q c g b, v = .tuple ⟨[.agg ⟨rcV (bestR (xs.filter fun x => decide (x.id = k))).rc q (bestR (xs.filter fun x => decide (x.id = k))).rc.bs.length c⟩, .bool (decide (0 < (xs.filter fun x => decide (x.id = k)).length))]⟩ ∧ Acc 5 1 q (bestR (xs.filter fun x => decide (x.id = k))).rc.bs.length c ((bestR (xs.filter fun x => decide (x.id = k))).rc.bs.flatMap encB) g b ∧ Mem w0 w' No [(g, b)] := by
  have hfe : (xs.filter fun x => !(fun x => decide (x.id ≠ k)) x) = (xs.filter fun x => decide (x.id = k)) := by congr 1; funext x; by_cases h : x.id = k <;> simp [h]
  obtain ⟨hBd, hBl⟩ := bestR_rd (k := k) hd
  have hfl : (xs.filter fun x => decide (x.id = k)).length ≤ xs.length := List.length_filter_le _ _
  refine C_of Tryz.func28 rfl rfl rfl fun κ hret hnorm => ?_
  have hm := Mem.start w0
  refine HW_seq rfl ?_
  refine HW_text (.act 0 (.act 1 (.pure 2 .done))) (by kernel_rfl) ?_
  refine a_box rfl rfl rfl rfl hm trivial fun m1 w hg_m1 hm hh => ?_
  refine a_alloc rfl rfl z57 hm trivial fun m2 w hg_m2 hm hh => ?_
  refine rw_p rfl rfl (y_assign rfl) ?_
  refine rw_done ?_
  refine gn_sq ?_
  refine HW_seq rfl ?_
  refine HW_text (.pure 0 (.act 1 (.pure 2 (.act 3 (.act 4 (.pure 5 (.pure 6 (.pure 7 (.act 8 (.act 9 (.pure 10 .done))))))))))) (by kernel_rfl) ?_
  refine rw_p rfl rfl (y_move rfl) ?_
  refine a_call rfl rfl rfl go62 (clone_r p cap xs _ (hx.ext0 hm.to) (by omega)) fun v w hR => ?_
  obtain ⟨p_s, cap_s, g_s, b_s, rfl, ha_s, hmc⟩ := hR
  refine ⟨trivial, ?_⟩
  have hg_s : b_s.real = true → _ := fun hr => (hmc.fresh _ List.mem_cons_self hr).resolve_left id
  replace hm := hm.callN hmc
  refine rw_p rfl rfl (y_func rfl rfl) ?_
  refine a_call rfl rfl rfl go61 (del_r p_s cap_s xs g_s b_s 63 [.pointer (some ⟨m1, 0, none⟩)] (fun x => decide (x.id ≠ k)) _ ha_s (fun hr => hm.getR (k := 0) rfl hr) (by omega) go63 (fun x w1 hE => rec_newest1 x k m1 w1 ((hE.same m1 ((Array.getElem?_eq_some_iff.1 (hm.get (k := 2) rfl)).1) (hm.neB 2 0 rfl rfl rfl)).trans (hm.get (k := 2) rfl)))) fun v w hR => ?_
  obtain ⟨b_s, rfl, ha_s, hmc⟩ := hR
  refine ⟨trivial, ?_⟩
  replace hm := hm.callB 0 rfl hmc
  simp only [hfe] at ha_s ⊢
  refine a_call rfl rfl rfl go60 (rec_greatest p_s cap_s (xs.filter fun x => decide (x.id = k)) _ (ha_s.rd hm 0 rfl) (by omega)) fun v w hR => ?_
  obtain ⟨rfl, hE⟩ := hR
  refine ⟨trivial, ?_⟩
  replace hm := hm.ext hE
  refine rw_p rfl rfl (y_move rfl) ?_
  refine rw_p rfl rfl (y_extract rfl rfl) ?_
  refine rw_p rfl rfl (y_extract rfl rfl) ?_
  refine a_alloc rfl rfl z57 hm trivial fun m3 w hg_m3 hm hh => ?_
  refine a_store rfl rfl rfl rfl sz57 rfl hm 0 rfl rfl fun w hm => ?_
  refine rw_p rfl rfl (y_assign rfl) ?_
  refine rw_done ?_
  refine gn_sq ?_
  refine HW_seq rfl ?_
  refine HW_text (.pure 0 (.pure 1 (.act 2 (.pure 3 (.act 4 .done))))) (by kernel_rfl) ?_
  refine rw_p rfl rfl (y_fieldAddr rfl fo57_4) ?_
  refine rw_p rfl rfl (y_load rfl sc22 (hm.nt 0 rfl) rfl) ?_
  refine a_call rfl rfl rfl go43 (clone_b (bestR (xs.filter fun x => decide (x.id = k))).d.p (bestR (xs.filter fun x => decide (x.id = k))).d.cap (bestR (xs.filter fun x => decide (x.id = k))).d.bs _ (hBd.ext0 hm.to) (by omega)) fun v w hR => ?_
  obtain ⟨p_z, cap_z, g_z, b_z, rfl, ha_z, hmc⟩ := hR
  refine ⟨trivial, ?_⟩
  have hg_z : b_z.real = true → _ := fun hr => (hmc.fresh _ List.mem_cons_self hr).resolve_left id
  replace hm := hm.callN hmc
  refine rw_p rfl rfl (y_fieldAddr rfl fo57_4) ?_
  refine a_store rfl rfl rfl rfl sz22 rfl hm 1 rfl rfl fun w hm => ?_
  refine rw_done ?_
  refine gn_sq ?_
  refine HW_seq rfl ?_
  refine HW_text (.pure 0 (.pure 1 (.act 2 (.pure 3 .done)))) (by kernel_rfl) ?_
  refine rw_p rfl rfl (y_loadA (s := 5) (vs := [_, _, _, _, _]) rfl ag57 (hm.nt 1 rfl) rfl) ?_
  refine rw_p rfl rfl (y_move rfl) ?_
  refine a_store rfl rfl rfl rfl sz57 rfl hm 3 rfl rfl fun w hm => ?_
  refine rw_p rfl rfl (y_assign rfl) ?_
  refine rw_done ?_
  refine gn_sq ?_
  refine HW_ret rfl ?_
  refine toR (fin hret rfl (.cell rfl (run_loadVar_a (vs := [_, _, _, _, _]) ag57 (hm.get (k := 3) rfl) rfl) (.tmp rfl .nil)) .more ?_)
  exact ⟨p_z, cap_z, g_z, b_z, rfl, ha_z, (hm.pick [0] rfl)⟩

end Go.Proofs.YthailbggeafckaaGreat
