/- Contracts of functions of the program: what each returns. Conditions: the hypotheses of each theorem. -/
import Derived.Test.YtlgkhajmjgepaaaNw
set_option linter.unusedVariables false
set_option linter.unusedSimpArgs false
namespace Go.Proofs.Ytlgkhajmjgepaaa
open Go Go.Cx

theorem sb45 : slcB Try.prog 45 = true := by kernel_rfl

theorem idxf_r (p : Option Addr) (cap : Nat) (xs : List RcV) (fi : FuncId) (l2 : List Value) (pred : RcV → Bool) (w0 : World) (hx : Rd w0 p (xs.flatMap encR)) (hlen : xs.length ≤ 9223372036854775807) (hg : isGo Try.prog fi = true) (hf : ∀ x w1, x ∈ xs → Ext No w0 w1 → C Try.prog fi (.agg ⟨encR x⟩ :: l2) w1 fun v w2 => v = .bool (pred x) ∧ Ext No w1 w2) : C Try.prog 45 [.slice p xs.length cap, .func (.func fi) #[] ⟨l2⟩] w0 fun v w' => v = .int .i64 (Pl.idx pred xs) ∧ Ext No w0 w' := by
  refine C_of Try.func45 rfl rfl rfl fun κ hret hnorm => ?_
  have hm := Mem.start w0
  refine HW_seq rfl ?_
  refine HW_text (.pure 0 .done) (by kernel_rfl) ?_
  refine rw_p rfl rfl (y_assign rfl) ?_
  refine rw_done ?_
  refine gn_sq ?_
  refine HW_seq rfl ?_
  refine HW_seq rfl ?_
  refine HW_text (.pure 0 (.pure 1 (.pure 2 .done))) (by kernel_rfl) ?_
  refine rw_p rfl rfl (y_move rfl) ?_
  refine rw_p rfl rfl (y_len rfl rfl sl45) ?_
  refine rw_p rfl rfl (y_move rfl) ?_
  refine rw_done ?_
  refine gn_sq ?_
  refine HW_block rfl ?_
  refine HW_loopK (ι := Nat) rfl (ks := [0, 1, 7]) (.cons rfl (.cons rfl (.cons rfl .nil))) (fun k => [(8, .int .i64 k)]) (fun k w => Mem w0 w No [] ∧ k ≤ xs.length ∧ ∀ (j : Nat) y, j < k → xs[j]? = some y → pred y = false) (fun k => xs.length - k) 0 (⟨hm, Nat.zero_le _, fun _ _ h => absurd h (Nat.not_lt_zero _)⟩) ⟨rfl, trivial⟩ (fun k w hM => ?_)
  obtain ⟨hm, hk, hno⟩ := hM
  refine HW_seq rfl ?_
  refine HW_text (.pure 0 .done) (by kernel_rfl) ?_
  refine rw_p rfl rfl (y_lt rfl rfl) ?_
  refine rw_done ?_
  refine gn_sq ?_
  refine HW_seq rfl ?_
  refine HW_cond rfl rfl (fun hc0 => ?_) (fun hc0 => ?_)
  ·
    simp only [decide_eq_true_eq] at hc0
    obtain ⟨x, hi⟩ : ∃ y_, xs[k]? = some y_ := ⟨_, List.getElem?_eq_getElem (by omega)⟩
    obtain ⟨qb, qo, rfl⟩ := hx.atI encR_len (by decide) hi
    refine HW_skip rfl ?_
    refine gn_sq ?_
    refine HW_seq rfl ?_
    refine HW_block rfl ?_
    refine HW_seq rfl ?_
    refine HW_text (.pure 0 (.pure 1 .done)) (by kernel_rfl) ?_
    refine rw_p rfl rfl (y_move rfl) ?_
    refine rw_p rfl rfl (y_assign rfl) ?_
    refine rw_done ?_
    refine gn_sq ?_
    refine HW_seq rfl ?_
    refine HW_text (.pure 0 (.pure 1 (.pure 2 (.pure 3 (.pure 4 (.act 5 .done)))))) (by kernel_rfl) ?_
    refine rw_p rfl rfl (y_move rfl) ?_
    refine rw_p rfl rfl (y_move rfl) ?_
    refine rw_p rfl rfl (y_move rfl) ?_
    refine rw_p rfl rfl (y_index rfl rfl sl45 rfl (by omega) (by omega)) ?_
    refine rw_p rfl rfl (y_elA rfl ag31 (hx.ext0 hm.to).nt encR_len hi) ?_
    refine a_callV rfl rfl rfl rfl hg (hf x _ (List.mem_of_getElem? hi) hm.to) fun v w hR => ?_
    obtain ⟨rfl, hE⟩ := hR
    refine ⟨trivial, ?_⟩
    replace hm := hm.ext hE
    refine rw_done ?_
    refine gn_sq ?_
    refine HW_cond rfl rfl (fun hc1 => ?_) (fun hc1 => ?_)
    ·
      refine HW_seq rfl ?_
      refine HW_text (.pure 0 (.pure 1 .done)) (by kernel_rfl) ?_
      refine rw_p rfl rfl (y_move rfl) ?_
      refine rw_p rfl rfl (y_assign rfl) ?_
      refine rw_done ?_
      refine gn_sq ?_
      refine HW_ret rfl ?_
      refine gr_bl (gr_sq (gr_lp (gr_bl (gr_sq ?_))))
      refine toR (fin hret rfl (.tmp rfl .nil) .one ?_)
      exact ⟨by rw [Pl.idx_first hi hc1 hno], hm.to⟩
    ·
      refine HW_skip rfl ?_
      refine gn_bl ?_
      refine gn_sq ?_
      refine HW_text (.pure 0 (.pure 1 .done)) (by kernel_rfl) ?_
      refine rw_p rfl rfl (y_add rfl rfl (i64w (by omega) (by omega))) ?_
      refine rw_p rfl rfl (y_move rfl) ?_
      refine rw_done ?_
      refine next (k + 1) (by omega) ⟨hm, by omega, fun j y hj hy => ?_⟩ ⟨nx k, rfl, rfl, rfl, trivial⟩
      rcases Nat.lt_or_ge j k with h | h
      · exact hno j y h hy
      · obtain rfl : j = k := by omega
        rw [hi] at hy; cases hy; exact hc1
  ·
    have hk : k = xs.length := by simp at hc0; omega
    subst hk
    refine HW_exit rfl ?_
    refine gx_sq (gx_lp ?_)
    refine gx_here ?_
    refine gn_sq ?_
    refine HW_seq rfl ?_
    refine HW_text (.pure 0 .done) (by kernel_rfl) ?_
    refine rw_p rfl rfl (y_assign rfl) ?_
    refine rw_done ?_
    refine gn_sq ?_
    refine HW_ret rfl ?_
    refine toR (fin hret rfl (.tmp rfl .nil) .one ?_)
    exact ⟨by rw [Pl.idx_none hno], hm.to⟩

theorem rec_newest1 (x : RcV) (k : Int) (m : Nat) (w0 : World) (hk : w0.heap[m]? = some (Blk.row 22 [.int .u64 k]).toObj) : C Try.prog 36 [.agg ⟨encR x⟩, .pointer (some ⟨m, 0, none⟩)] w0 fun v w' => v = .bool (decide (x.id ≠ k)) ∧ Ext No w0 w' := by
  refine C_of Try.func36 rfl rfl rfl fun κ hret hnorm => ?_
  have hm := Mem.start w0
  refine HW_seq rfl ?_
  refine HW_text (.act 0 (.pure 1 .done)) (by kernel_rfl) ?_
  refine a_box rfl rfl rfl rfl hm trivial fun m1 w hg_m1 hm hh => ?_
  refine rw_p rfl rfl (y_assign rfl) ?_
  refine rw_done ?_
  refine gn_sq ?_
  refine HW_seq rfl ?_
  refine HW_text (.pure 0 (.pure 1 (.pure 2 (.pure 3 (.pure 4 .done))))) (by kernel_rfl) ?_
  refine rw_p rfl rfl (y_fieldAddr rfl fo31_1) ?_
  refine rw_p rfl rfl (y_load rfl sc22 (hm.nt 0 rfl) rfl) ?_
  refine rw_p rfl rfl (y_load rfl sc22 (nowT ((hm.to.same _ (Array.getElem?_eq_some_iff.1 hk).1 id).trans hk)) rfl) ?_
  refine rw_p rfl rfl (y_ne rfl rfl) ?_
  refine rw_p rfl rfl (y_assign rfl) ?_
  refine rw_done ?_
  refine gn_sq ?_
  refine HW_ret rfl ?_
  refine toR (fin hret rfl (.tmp rfl .nil) .one ?_)
  exact ⟨by simp, hm.to⟩

theorem oneRc (l : List RcV) : (l.flatMap encR).all (·.oneCell') = true := by
  rw [List.all_flatMap]
  exact List.all_eq_true.2 fun x _ => rfl
theorem lenRc (l : List RcV) : (l.flatMap encR).length = l.length * 5 := by
  induction l with
  | nil => rfl
  | cons x r ih => rw [List.flatMap_cons, List.length_append, ih, List.length_cons]; show 5 + _ = _; omega
theorem nilRc {xs : List RcV} (h : xs.flatMap encR = []) : xs = [] := by
  cases xs with
  | nil => rfl
  | cons x r => simp [encR] at h

theorem clone_r (p : Option Addr) (cap : Nat) (xs : List RcV) (w0 : World) (hx : Rd w0 p (xs.flatMap encR)) (hlen : xs.length * 56 ≤ 140737488355328) : C Try.prog 35 [.slice p xs.length cap] w0 fun v w' => ∃ q c g b, v = .slice q xs.length c ∧ Acc 31 5 q xs.length c (xs.flatMap encR) g b ∧ Mem w0 w' No [(g, b)] := by
  refine C_of Try.func35 rfl rfl rfl fun κ hret hnorm => ?_
  have hm := Mem.start w0
  refine HW_seq rfl ?_
  refine HW_text (.pure 0 .done) (by kernel_rfl) ?_
  refine rw_p rfl rfl (y_assign rfl) ?_
  refine rw_done ?_
  refine gn_sq ?_
  refine HW_seq rfl ?_
  refine HW_seq rfl ?_
  refine HW_text (.pure 0 (.pure 1 .done)) (by kernel_rfl) ?_
  refine rw_p rfl rfl (y_move rfl) ?_
  refine rw_p rfl rfl (y_snil rfl rfl sb45) ?_
  refine rw_done ?_
  refine gn_sq ?_
  refine HW_cond rfl rfl (fun hc0 => ?_) (fun hc0 => ?_)
  ·
    obtain rfl : p = none := by simpa using hc0
    obtain rfl := nilRc hx
    refine HW_seq rfl ?_
    refine HW_text (.pure 0 .done) (by kernel_rfl) ?_
    refine rw_p rfl rfl (y_assign rfl) ?_
    refine rw_done ?_
    refine gn_sq ?_
    refine HW_ret rfl ?_
    refine gr_sq ?_
    refine toR (fin hret rfl (.tmp rfl .nil) .one ?_)
    exact ⟨none, 0, 0, .gap, rfl, .nil _ _ _ _, hm.gapIn⟩
  ·
    refine HW_skip rfl ?_
    refine gn_sq ?_
    refine HW_seq rfl ?_
    refine HW_text (.act 0 (.pure 1 (.act 2 (.pure 3 .done)))) (by kernel_rfl) ?_
    refine a_buildSlice (l := []) rfl rfl sl45 z31 rfl rfl rfl rfl rfl rfl rfl hm trivial fun m1 w hg_m1 hm hh => ?_
    refine rw_p rfl rfl (y_move rfl) ?_
    refine a_append rfl rfl rfl rfl rfl rfl sl45 sl45 z31 rfl (oneRc xs) (hx.ext0 hm.to) (lenRc xs) (Acc.row rfl) hm 0 rfl (by omega) (by omega) fun p_s1 cap_s1 g_s1 b_s1 w ha_s1 hm => ?_
    refine rw_p rfl rfl (y_assign rfl) ?_
    refine rw_done ?_
    refine gn_sq ?_
    refine HW_ret rfl ?_
    refine toR (fin hret rfl (.tmp rfl .nil) .one ?_)
    exact ⟨p_s1, cap_s1, g_s1, b_s1, by rw [Nat.zero_add], by simpa only [Nat.zero_add, List.nil_append] using ha_s1, hm⟩

end Go.Proofs.Ytlgkhajmjgepaaa
