/- Contracts of functions of the program: what each returns. Conditions: the hypotheses of each theorem. -/
import Derived.Test.YtlgkhajmjgepaaaNwE
import Derived.Test.YtlgkhajmjgepaaaCyF
set_option linter.unusedVariables false
set_option linter.unusedSimpArgs false
namespace Go.Proofs.Ytlgkhajmjgepaaa
open Go Go.Cx

theorem go45 : isGo Try.prog 45 = true := by kernel_rfl

set_option maxHeartbeats 800000 in
theorem del_r (p_s : Option Addr) (cap_s : Nat) (xs : List RcV) (g_s : Nat) (b_s : Blk) (fi : FuncId) (l2 : List Value) (pred : RcV → Bool) (w0 : World) (ha_s : Acc 31 5 p_s xs.length cap_s (xs.flatMap encR) g_s b_s) (hb_s : b_s.real = true → w0.heap[g_s]? = some b_s.toObj) (hlen : xs.length ≤ 4611686018427387903) (hg : isGo Try.prog fi = true) (hf : ∀ x w1, Ext (fun k => k = g_s ∧ b_s.real = true) w0 w1 → C Try.prog fi (.agg ⟨encR x⟩ :: l2) w1 fun v w2 => v = .bool (pred x) ∧ Ext No w1 w2) : C Try.prog 34 [.slice p_s xs.length cap_s, .func (.func fi) #[] ⟨l2⟩] w0 fun v w' => ∃ b', v = .slice p_s (xs.filter fun x => !pred x).length cap_s ∧ Acc 31 5 p_s (xs.filter fun x => !pred x).length cap_s ((xs.filter fun x => !pred x).flatMap encR) g_s b' ∧ Mem w0 w' (fun k => k = g_s ∧ b_s.real = true) [(g_s, b')] := by
  refine C_of Try.func34 rfl rfl rfl fun κ hret hnorm => ?_
  have hm := Mem.startB hb_s
  refine HW_seq rfl ?_
  refine HW_text (.pure 0 .done) (by kernel_rfl) ?_
  refine rw_p rfl rfl (y_assign rfl) ?_
  refine rw_done ?_
  refine gn_sq ?_
  refine HW_seq rfl ?_
  refine HW_text (.pure 0 (.pure 1 (.act 2 (.pure 3 .done)))) (by kernel_rfl) ?_
  refine rw_p rfl rfl (y_move rfl) ?_
  refine rw_p rfl rfl (y_move rfl) ?_
  refine a_call rfl rfl rfl go45 (idxf_r p_s cap_s xs fi l2 pred _ (ha_s.rd hm 0 rfl) (by omega) hg (fun x w1 hx hE => hf x w1 (hm.to.trans hE.weak))) fun v w hR => ?_
  obtain ⟨rfl, hE⟩ := hR
  refine ⟨trivial, ?_⟩
  replace hm := hm.ext hE
  refine rw_p rfl rfl (y_assign rfl) ?_
  refine rw_done ?_
  refine gn_sq ?_
  refine HW_seq rfl ?_
  refine HW_seq rfl ?_
  refine HW_text (.pure 0 (.pure 1 .done)) (by kernel_rfl) ?_
  refine rw_p rfl rfl (y_move rfl) ?_
  refine rw_p rfl rfl (y_eq rfl rfl) ?_
  refine rw_done ?_
  refine gn_sq ?_
  refine HW_cond rfl rfl (fun hc0 => ?_) (fun hc0 => ?_)
  ·
    simp only [decide_eq_true_eq] at hc0
    have hall : (xs.filter fun x => !pred x) = xs := by rcases idx_case pred xs with ⟨_, h⟩ | ⟨i, x, h, _⟩; exact h; omega
    refine HW_seq rfl ?_
    refine HW_text (.pure 0 (.pure 1 .done)) (by kernel_rfl) ?_
    refine rw_p rfl rfl (y_move rfl) ?_
    refine rw_p rfl rfl (y_assign rfl) ?_
    refine rw_done ?_
    refine gn_sq ?_
    refine HW_ret rfl ?_
    refine gr_sq ?_
    refine toR (fin hret rfl (.tmp rfl .nil) .one ?_)
    exact ⟨b_s, by rw [hall], by rw [hall]; exact ha_s, (hm.pick [0] rfl)⟩
  ·
    simp only [decide_eq_false_iff_not] at hc0
    obtain ⟨i0, x0, hi0, hx0, hp0, ht0⟩ := (idx_case pred xs).resolve_left (fun h => hc0 h.1)
    have hl0 := (List.getElem?_eq_some_iff.1 hx0).1
    rw [hi0]
    obtain rfl := ha_s.ptr (by omega)
    have hI0 := DelI.start hx0 hp0 ht0
    refine HW_skip rfl ?_
    refine gn_sq ?_
    refine HW_seq rfl ?_
    refine HW_seq rfl ?_
    refine HW_text (.pure 0 (.pure 1 (.pure 2 .done))) (by kernel_rfl) ?_
    refine rw_p rfl rfl (y_move rfl) ?_
    refine rw_p rfl rfl (y_add rfl rfl (i64w (by omega) (by omega))) ?_
    refine rw_p rfl rfl (y_assign rfl) ?_
    refine rw_done ?_
    refine gn_sq ?_
    refine HW_block rfl ?_
    refine HW_loopK (ι := Nat × Nat × Blk × List RcV) rfl (ks := [0, 1, 4]) (.cons rfl (.cons rfl (.cons rfl .nil))) (fun x => [(6, .int .i64 x.1), (5, .int .i64 x.2.1)]) (fun x w => Mem w0 w (fun k => k = g_s ∧ b_s.real = true) [(g_s, x.2.2.1)] ∧ Acc 31 5 (some ⟨g_s, 0, none⟩) xs.length cap_s (x.2.2.2.flatMap encR) g_s x.2.2.1 ∧ DelI pred xs x.1 x.2.1 x.2.2.2) (fun x => xs.length - x.1) (i0 + 1, i0, b_s, xs) (⟨(hm.pick [0] rfl), ha_s, hI0⟩) ⟨nx i0, rfl, trivial⟩ (fun x w hM => ?_)
    obtain ⟨hm, ha_s, hI⟩ := hM
    refine HW_seq rfl ?_
    refine HW_seq rfl ?_
    refine HW_text (.pure 0 (.pure 1 (.pure 2 (.pure 3 .done)))) (by kernel_rfl) ?_
    refine rw_p rfl rfl (y_move rfl) ?_
    refine rw_p rfl rfl (y_move rfl) ?_
    refine rw_p rfl rfl (y_len rfl rfl sl45) ?_
    refine rw_p rfl rfl (y_lt rfl rfl) ?_
    refine rw_done ?_
    refine gn_sq ?_
    refine HW_cond rfl rfl (fun hc1 => ?_) (fun hc1 => ?_)
    ·
      simp only [decide_eq_true_eq] at hc1
      have hzl := hI.len
      have hlt := hI.lt
      obtain ⟨e, hi⟩ : ∃ y_, x.2.2.2[x.1]? = some y_ := ⟨_, List.getElem?_eq_getElem (by omega)⟩
      refine HW_skip rfl ?_
      refine gn_sq ?_
      refine HW_seq rfl ?_
      refine HW_block rfl ?_
      refine HW_seq rfl ?_
      refine HW_text (.pure 0 (.pure 1 (.pure 2 (.pure 3 (.act 4 (.act 5 .done)))))) (by kernel_rfl) ?_
      refine rw_p rfl rfl (y_move rfl) ?_
      refine rw_p rfl rfl (y_move rfl) ?_
      refine rw_p rfl rfl (y_index rfl rfl sl45 rfl (by omega) (by omega)) ?_
      refine rw_p rfl rfl (y_elA rfl ag31 (ha_s.rd hm 0 rfl).nt encR_len hi) ?_
      refine a_alloc rfl rfl z31 hm trivial fun m1 w hg_m1 hm hh => ?_
      refine a_store rfl rfl rfl rfl sz31 rfl hm 0 rfl rfl fun w hm => ?_
      refine rw_done ?_
      refine gn_sq ?_
      refine HW_seq rfl ?_
      refine HW_text (.pure 0 (.pure 1 (.act 2 (.pure 3 .done)))) (by kernel_rfl) ?_
      refine rw_p rfl rfl (y_move rfl) ?_
      refine rw_p rfl rfl (y_loadA (s := 5) (vs := [_, _, _, _, _]) rfl ag31 (hm.nt 0 rfl) rfl) ?_
      refine a_callV rfl rfl rfl rfl hg (hf e _ hm.to) fun v w hR => ?_
      obtain ⟨rfl, hE⟩ := hR
      refine ⟨trivial, ?_⟩
      replace hm := hm.ext hE
      refine rw_p rfl rfl (y_not rfl) ?_
      refine rw_done ?_
      refine gn_sq ?_
      refine HW_cond rfl rfl (fun hc2 => ?_) (fun hc2 => ?_)
      ·
        simp only [Bool.not_eq_true'] at hc2
        refine HW_seq rfl ?_
        refine HW_text (.pure 0 (.pure 1 (.pure 2 (.pure 3 (.act 4 .done))))) (by kernel_rfl) ?_
        refine rw_p rfl rfl (y_move rfl) ?_
        refine rw_p rfl rfl (y_move rfl) ?_
        refine rw_p rfl rfl (y_loadA (s := 5) (vs := [_, _, _, _, _]) rfl ag31 (hm.nt 0 rfl) rfl) ?_
        refine rw_p rfl rfl (y_index rfl rfl sl45 rfl (by omega) (by omega)) ?_
        refine a_storeE rfl rfl rfl rfl sz31 rfl rfl ha_s (by omega) hm 1 rfl fun b_s w ha_s hm => ?_
        replace ha_s := ha_s.to (upds_fm encR_len (by omega) e)
        refine rw_done ?_
        refine gn_sq ?_
        refine HW_text (.pure 0 (.pure 1 (.pure 2 .done))) (by kernel_rfl) ?_
        refine rw_p rfl rfl (y_move rfl) ?_
        refine rw_p rfl rfl (y_add rfl rfl (i64w (by omega) (by omega))) ?_
        refine rw_p rfl rfl (y_assign rfl) ?_
        refine rw_done ?_
        refine gn_bl ?_
        refine gn_sq ?_
        refine HW_text (.pure 0 (.pure 1 (.pure 2 .done))) (by kernel_rfl) ?_
        refine rw_p rfl rfl (y_move rfl) ?_
        refine rw_p rfl rfl (y_add rfl rfl (i64w (by omega) (by omega))) ?_
        refine rw_p rfl rfl (y_assign rfl) ?_
        refine rw_done ?_
        refine next (x.1 + 1, x.2.1 + 1, b_s, x.2.2.2.set x.2.1 e) (by simp only; omega) ⟨(hm.pick [1] rfl), ha_s, hI.put hi hc2⟩ ⟨nx x.1, nx x.2.1, rfl, rfl, rfl, trivial⟩
      ·
        simp only [Bool.not_eq_false'] at hc2
        refine HW_skip rfl ?_
        refine gn_bl ?_
        refine gn_sq ?_
        refine HW_text (.pure 0 (.pure 1 (.pure 2 .done))) (by kernel_rfl) ?_
        refine rw_p rfl rfl (y_move rfl) ?_
        refine rw_p rfl rfl (y_add rfl rfl (i64w (by omega) (by omega))) ?_
        refine rw_p rfl rfl (y_assign rfl) ?_
        refine rw_done ?_
        refine next (x.1 + 1, x.2.1, x.2.2.1, x.2.2.2) (by simp only; omega) ⟨(hm.pick [1] rfl), ha_s, hI.skip hi hc2⟩ ⟨nx x.1, rfl, rfl, rfl, rfl, trivial⟩
    ·
      simp only [decide_eq_false_iff_not] at hc1
      obtain ⟨hd1, hd2, hd3⟩ := hI.done (by omega)
      refine HW_exit rfl ?_
      refine gx_sq (gx_lp ?_)
      refine gx_here ?_
      refine gn_sq ?_
      refine HW_seq rfl ?_
      refine HW_text (.pure 0 (.pure 1 (.pure 2 (.act 3 .done)))) (by kernel_rfl) ?_
      refine rw_p rfl rfl (y_move rfl) ?_
      refine rw_p rfl rfl (y_move rfl) ?_
      refine rw_p rfl rfl (y_slice (ln := x.2.1) (hn := xs.length) rfl sl45 ⟨_, rfl⟩ rfl (by omega) (by have := ha_s.le; omega) (fun _ ad e => by cases e; rfl)) ?_
      refine a_clearL rfl rfl sl45 z31 rfl (by decide) rfl (by omega) ha_s hm 0 rfl fun b_s w ha_s hm => ?_
      refine rw_done ?_
      refine gn_sq ?_
      refine HW_seq rfl ?_
      refine HW_text (.pure 0 (.pure 1 (.pure 2 (.pure 3 .done)))) (by kernel_rfl) ?_
      refine rw_p rfl rfl (y_move rfl) ?_
      refine rw_p rfl rfl (y_move rfl) ?_
      refine rw_p rfl rfl (y_slice (ln := 0) (hn := x.2.1) rfl sl45 rfl ⟨_, rfl⟩ (by omega) (by have := ha_s.le; omega) (fun _ ad e => by cases e; rfl)) ?_
      refine rw_p rfl rfl (y_assign rfl) ?_
      refine rw_done ?_
      refine gn_sq ?_
      refine HW_ret rfl ?_
      refine toR (fin hret rfl (.tmp rfl .nil) .one ?_)
      exact ⟨b_s, by rw [hd2, slp_zero (fun a e => by cases e; rfl)]; rfl, by rw [hd2]; exact (ha_s.head hd3).to ((take_upds _ _ _).trans ((take_fm encR_len _ _).trans (by rw [hd1]))), (hm.pick [0] rfl)⟩

end Go.Proofs.Ytlgkhajmjgepaaa
