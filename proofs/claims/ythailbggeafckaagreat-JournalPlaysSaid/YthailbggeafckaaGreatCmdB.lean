/- Contracts of functions of the program: what each returns. Conditions: the hypotheses of each theorem. -/
import Derived.Test.YthailbggeafckaaGreatByt
set_option linter.unusedVariables false
set_option linter.unusedSimpArgs false
namespace Go.Proofs.YthailbggeafckaaGreat
open Go Go.Cx

theorem bt22_9 : bts Tryz.prog 22 9 = true := by kernel_rfl
theorem it3 : intO Tryz.prog 3 = some .i64 := by kernel_rfl
theorem go71 : isGo Tryz.prog 71 = true := by kernel_rfl
theorem sc22 : scal Tryz.prog 22 = true := by kernel_rfl
theorem sl89 : slcO Tryz.prog 89 = some (22, 1, 24) := by kernel_rfl

theorem b_equal (p q : Option Addr) (c1 c2 : Nat) (xs ys : List UInt8) (w0 : World) (hx : Rd w0 p (xs.flatMap encB)) (hy : Rd w0 q (ys.flatMap encB)) : C Tryz.prog 45 [.slice p xs.length c1, .slice q ys.length c2] w0 fun v w' => v = .bool (decide (xs = ys)) ∧ Ext No w0 w' := by
  refine C_of Tryz.func45 rfl rfl rfl fun κ hret hnorm => ?_
  have hm := Mem.start w0
  refine HW_seq rfl ?_
  refine HW_text (.pure 0 .done) (by kernel_rfl) ?_
  refine rw_p rfl rfl (y_assign rfl) ?_
  refine rw_done ?_
  refine gn_sq ?_
  refine HW_seq rfl ?_
  refine HW_text (.pure 0 (.pure 1 (.pure 2 (.pure 3 (.pure 4 (.pure 5 .done)))))) (by kernel_rfl) ?_
  refine rw_p rfl rfl (y_move rfl) ?_
  refine rw_p rfl rfl (y_cvs rfl bt22_9 ((hx.ext0 hm.to).nt) rfl) ?_
  refine rw_p rfl rfl (y_move rfl) ?_
  refine rw_p rfl rfl (y_cvs rfl bt22_9 ((hy.ext0 hm.to).nt) rfl) ?_
  refine rw_p rfl rfl (y_seqB rfl rfl) ?_
  refine rw_p rfl rfl (y_assign rfl) ?_
  refine rw_done ?_
  refine gn_sq ?_
  refine HW_ret rfl ?_
  refine toR (fin hret rfl (.tmp rfl .nil) .one ?_)
  exact ⟨rfl, hm.to⟩

theorem grow_b0 (n : Nat) (w0 : World) (hn : n ≤ 140737488355328) : C Tryz.prog 71 [.slice none 0 0, .int .i64 n] w0 fun v w' => ∃ p cap g b, v = .slice p 0 cap ∧ Acc 5 1 p 0 cap [] g b ∧ Mem w0 w' No [(g, b)] := by
  refine C_of Tryz.func71 rfl rfl rfl fun κ hret hnorm => ?_
  have hm := Mem.start w0
  refine HW_seq rfl ?_
  refine HW_text (.pure 0 .done) (by kernel_rfl) ?_
  refine rw_p rfl rfl (y_assign rfl) ?_
  refine rw_done ?_
  refine gn_sq ?_
  refine HW_seq rfl ?_
  refine HW_seq rfl ?_
  refine HW_text (.pure 0 (.pure 1 .done)) (by kernel_rfl) ?_
  refine rw_p rfl rfl (y_move rfl) ?_
  refine rw_p rfl rfl (y_lt rfl rfl) ?_
  refine rw_done ?_
  refine gn_sq ?_
  refine HW_condF rfl rfl (decide_eq_false (by omega)) ?_
  refine HW_skip rfl ?_
  refine gn_sq ?_
  refine HW_seq rfl ?_
  refine HW_seq rfl ?_
  refine HW_text (.pure 0 (.pure 1 (.pure 2 (.pure 3 (.pure 4 (.pure 5 (.pure 6 (.pure 7 .done)))))))) (by kernel_rfl) ?_
  refine rw_p rfl rfl (y_move rfl) ?_
  refine rw_p rfl rfl (y_move rfl) ?_
  refine rw_p rfl rfl (y_cap rfl rfl sl22) ?_
  refine rw_p rfl rfl (y_move rfl) ?_
  refine rw_p rfl rfl (y_len rfl rfl sl22) ?_
  refine rw_p rfl rfl (y_sub rfl rfl (i64w (by omega) (by omega))) ?_
  refine rw_p rfl rfl (y_sub rfl rfl ((i64w (by simp <;> omega) (by simp <;> omega)).trans (by simp : (n : Int) - ((0 : Nat) - (0 : Nat)) = (n : Int)))) ?_
  refine rw_p rfl rfl (y_assign rfl) ?_
  refine rw_done ?_
  refine gn_sq ?_
  refine HW_seq rfl ?_
  refine HW_text (.pure 0 (.pure 1 .done)) (by kernel_rfl) ?_
  refine rw_p rfl rfl (y_move rfl) ?_
  refine rw_p rfl rfl (y_gt rfl rfl) ?_
  refine rw_done ?_
  refine gn_sq ?_
  refine HW_cond rfl rfl (fun hc1 => ?_) (fun hc1 => ?_)
  ·
    simp only [Bool.and_eq_true, Bool.or_eq_true, Bool.and_eq_false_iff, Bool.or_eq_false_iff, Bool.not_eq_true', Bool.not_eq_false', decide_eq_true_eq, decide_eq_false_iff_not] at hc1
    refine HW_text (.pure 0 (.pure 1 (.pure 2 (.pure 3 (.pure 4 (.act 5 (.pure 6 (.pure 7 (.pure 8 (.pure 9 .done)))))))))) (by kernel_rfl) ?_
    refine rw_p rfl rfl (y_move rfl) ?_
    refine rw_p rfl rfl (y_move rfl) ?_
    refine rw_p rfl rfl (y_cap rfl rfl sl22) ?_
    refine rw_p rfl rfl (y_v (y_slice (ln := 0) (hn := 0) rfl sl22 rfl ⟨_, rfl⟩ (Nat.le_refl _) (Nat.le_refl _) (fun h => absurd rfl h)) (show _ = Value.slice none 0 0 from rfl)) ?_
    replace hm := hm.gapIn
    have ha_z := Acc.nil 5 1 none 0
    refine rw_p rfl rfl (y_move rfl) ?_
    refine a_appendZ rfl rfl rfl rfl rfl rfl sl22 it3 z5 rfl rfl ha_z hm 0 rfl (by omega) (by omega) fun p_z cap_z g_z b_z w ha_z hm => ?_
    refine rw_p rfl rfl (y_move rfl) ?_
    refine rw_p rfl rfl (y_len rfl rfl sl22) ?_
    refine rw_p rfl rfl (y_v (y_slice (ln := 0) (hn := 0) rfl sl22 rfl ⟨_, rfl⟩ (Nat.le_refl _) (Nat.zero_le _) (fun h => ha_z.spot h)) (show _ = Value.slice p_z 0 cap_z by rw [slp_zero' ha_z.spot]; rfl)) ?_
    refine rw_p rfl rfl (y_assign rfl) ?_
    refine rw_done ?_
    refine gn_sq ?_
    refine HW_seq rfl ?_
    refine HW_text (.pure 0 (.pure 1 .done)) (by kernel_rfl) ?_
    refine rw_p rfl rfl (y_move rfl) ?_
    refine rw_p rfl rfl (y_assign rfl) ?_
    refine rw_done ?_
    refine gn_sq ?_
    refine HW_ret rfl ?_
    refine toR (fin hret rfl (.tmp rfl .nil) .one ?_)
    first | exact ⟨none, 0, 0, .gap, rfl, .nil _ _ _ _, hm.gapIn⟩ | exact ⟨p_z, cap_z, g_z, b_z, rfl, ha_z.cut0, hm⟩
  ·
    have hn0 : n = 0 := by simp at hc1; omega
    refine HW_skip rfl ?_
    refine gn_sq ?_
    refine HW_seq rfl ?_
    refine HW_text (.pure 0 (.pure 1 .done)) (by kernel_rfl) ?_
    refine rw_p rfl rfl (y_move rfl) ?_
    refine rw_p rfl rfl (y_assign rfl) ?_
    refine rw_done ?_
    refine gn_sq ?_
    refine HW_ret rfl ?_
    refine toR (fin hret rfl (.tmp rfl .nil) .one ?_)
    first | exact ⟨none, 0, 0, .gap, rfl, .nil _ _ _ _, hm.gapIn⟩ | exact ⟨p_z, cap_z, g_z, b_z, rfl, ha_z.cut0, hm⟩

set_option maxHeartbeats 400000 in
theorem concat_b (q : Option Addr) (cq : Nat) (ps : List SB) (w0 : World) (hq : Rd w0 q (ps.flatMap encS)) (hps : ∀ s ∈ ps, Rd w0 s.p (s.bs.flatMap encB)) (hl : ps.length ≤ 4611686018427387903) (hb : (ps.flatMap (·.bs)).length ≤ 140737488355328) : C Tryz.prog 35 [.slice q ps.length cq] w0 fun v w' => ∃ p n cap g b, v = .slice p n cap ∧ Acc 5 1 p n cap ((ps.flatMap (·.bs)).flatMap encB) g b ∧ Mem w0 w' No [(g, b)] := by
  refine C_of Tryz.func35 rfl rfl rfl fun κ hret hnorm => ?_
  have hm := Mem.start w0
  refine HW_seq rfl ?_
  refine HW_text (.pure 0 .done) (by kernel_rfl) ?_
  refine rw_p rfl rfl (y_assign rfl) ?_
  refine rw_done ?_
  refine gn_sq ?_
  refine HW_seq rfl ?_
  refine HW_text (.pure 0 .done) (by kernel_rfl) ?_
  refine rw_p rfl rfl (y_assign rfl) ?_
  refine rw_done ?_
  refine gn_sq ?_
  refine HW_seq rfl ?_
  refine HW_seq rfl ?_
  refine HW_text (.pure 0 (.pure 1 (.pure 2 .done))) (by kernel_rfl) ?_
  refine rw_p rfl rfl (y_move rfl) ?_
  refine rw_p rfl rfl (y_len rfl rfl sl89) ?_
  refine rw_p rfl rfl (y_move rfl) ?_
  refine rw_done ?_
  refine gn_sq ?_
  refine HW_block rfl ?_
  refine HW_loopK (ι := Nat) rfl (ks := [0, 2, 9, 10]) (.cons rfl (.cons rfl (.cons rfl (.cons rfl .nil)))) (fun k => [(11, .int .i64 k), (3, .int .i64 (((ps.take k).flatMap (·.bs)).length : Nat))]) (fun k w => Mem w0 w No [] ∧ k ≤ ps.length) (fun k => ps.length - k) 0 (⟨hm, Nat.zero_le _⟩) ⟨rfl, rfl, trivial⟩ (fun k w hM => ?_)
  obtain ⟨hm, hk⟩ := hM
  refine HW_seq rfl ?_
  refine HW_text (.pure 0 .done) (by kernel_rfl) ?_
  refine rw_p rfl rfl (y_lt rfl rfl) ?_
  refine rw_done ?_
  refine gn_sq ?_
  refine HW_seq rfl ?_
  refine HW_cond rfl rfl (fun hc0 => ?_) (fun hc0 => ?_)
  ·
    simp only [decide_eq_true_eq] at hc0
    obtain ⟨s, hi⟩ : ∃ y_, ps[k]? = some y_ := ⟨_, List.getElem?_eq_getElem (by omega)⟩
    obtain ⟨qb, qo, rfl⟩ := hq.atI encS_len (by decide) hi
    have hnx : ((((ps.take (k + 1)).flatMap (·.bs)).length : Nat) : Int) = (((ps.take k).flatMap (·.bs)).length : Nat) + s.bs.length := by rw [List.take_add_one, hi]; simp
    have hlt := fmTake (·.bs) ps (k + 1)
    refine HW_skip rfl ?_
    refine gn_sq ?_
    refine HW_seq rfl ?_
    refine HW_block rfl ?_
    refine HW_seq rfl ?_
    refine HW_text (.pure 0 (.pure 1 (.pure 2 .done))) (by kernel_rfl) ?_
    refine rw_p rfl rfl (y_index rfl rfl sl89 rfl (by omega) (by omega)) ?_
    refine rw_p rfl rfl (y_el1 rfl sc22 (hq.ext0 hm.to).nt encS_len hi rfl) ?_
    refine rw_p rfl rfl (y_assign rfl) ?_
    refine rw_done ?_
    refine gn_sq ?_
    refine HW_seq rfl ?_
    refine HW_text (.pure 0 (.pure 1 (.pure 2 (.pure 3 (.pure 4 .done))))) (by kernel_rfl) ?_
    refine rw_p rfl rfl (y_move rfl) ?_
    refine rw_p rfl rfl (y_move rfl) ?_
    refine rw_p rfl rfl (y_len rfl rfl sl22) ?_
    refine rw_p rfl rfl (y_add rfl rfl (i64w (by omega) (by omega))) ?_
    refine rw_p rfl rfl (y_assign rfl) ?_
    refine rw_done ?_
    refine gn_sq ?_
    refine HW_seq rfl ?_
    refine HW_text (.pure 0 (.pure 1 .done)) (by kernel_rfl) ?_
    refine rw_p rfl rfl (y_move rfl) ?_
    refine rw_p rfl rfl (y_lt rfl rfl) ?_
    refine rw_done ?_
    refine gn_sq ?_
    refine HW_condF rfl rfl (decide_eq_false (by omega)) ?_
    refine HW_skip rfl ?_
    refine gn_bl ?_
    refine gn_sq ?_
    refine HW_text (.pure 0 (.pure 1 .done)) (by kernel_rfl) ?_
    refine rw_p rfl rfl (y_add rfl rfl (i64w (by omega) (by omega))) ?_
    refine rw_p rfl rfl (y_move rfl) ?_
    refine rw_done ?_
    refine next (k + 1) (by omega) ⟨hm, by omega⟩ ⟨nx k, by rw [hnx]; rfl, rfl, rfl, rfl, rfl, trivial⟩
  ·
    simp only [decide_eq_false_iff_not] at hc0
    obtain rfl : k = ps.length := by omega
    obtain ⟨T, hT⟩ : ∃ T, (ps.flatMap (·.bs)).length = T := ⟨_, rfl⟩
    refine HW_exit rfl ?_
    refine gx_sq (gx_lp ?_)
    refine gx_here ?_
    refine gn_sq ?_
    refine HW_seq rfl ?_
    refine HW_text (.pure 0 (.act 1 (.pure 2 .done))) (by kernel_rfl) ?_
    refine rw_p rfl rfl (y_v (y_move rfl) (show _ = Value.int .i64 (T : Nat) by rw [List.take_length, hT])) ?_
    refine a_call rfl rfl rfl go71 (grow_b0 T _ (by omega)) fun v w hR => ?_
    obtain ⟨p_s, cap_s, g_s, b_s, rfl, ha_s, hmc⟩ := hR
    refine ⟨trivial, ?_⟩
    replace hm := hm.callN hmc
    refine rw_p rfl rfl (y_assign rfl) ?_
    refine rw_done ?_
    refine gn_sq ?_
    refine HW_seq rfl ?_
    refine HW_seq rfl ?_
    refine HW_text (.pure 0 (.pure 1 (.pure 2 .done))) (by kernel_rfl) ?_
    refine rw_p rfl rfl (y_move rfl) ?_
    refine rw_p rfl rfl (y_len rfl rfl sl89) ?_
    refine rw_p rfl rfl (y_move rfl) ?_
    refine rw_done ?_
    refine gn_sq ?_
    refine HW_block rfl ?_
    refine HW_loopK (ι := Nat × Ow) rfl (ks := [2, 25, 26]) (.cons rfl (.cons rfl (.cons rfl .nil))) (fun x => [(27, .int .i64 x.1), (6, .slice x.2.p x.2.n x.2.cap)]) (fun x w => Mem w0 w No [(x.2.g, x.2.b)] ∧ Acc 5 1 x.2.p x.2.n x.2.cap (((ps.take x.1).flatMap (·.bs)).flatMap encB) x.2.g x.2.b ∧ x.1 ≤ ps.length) (fun x => ps.length - x.1) (0, ⟨p_s, _, cap_s, g_s, b_s⟩) (⟨hm, ha_s, Nat.zero_le _⟩) ⟨rfl, rfl, trivial⟩ (fun x w hM => ?_)
    obtain ⟨hm, ha_s, hk⟩ := hM
    refine HW_seq rfl ?_
    refine HW_text (.pure 0 .done) (by kernel_rfl) ?_
    refine rw_p rfl rfl (y_lt rfl rfl) ?_
    refine rw_done ?_
    refine gn_sq ?_
    refine HW_seq rfl ?_
    refine HW_cond rfl rfl (fun hc2 => ?_) (fun hc2 => ?_)
    ·
      simp only [decide_eq_true_eq] at hc2
      obtain ⟨s, hi⟩ : ∃ y_, ps[x.1]? = some y_ := ⟨_, List.getElem?_eq_getElem (by omega)⟩
      obtain ⟨qb, qo, rfl⟩ := hq.atI encS_len (by decide) hi
      have hn := ha_s.lenB
      have hlt := fmTake (·.bs) ps (x.1 + 1)
      have hnx : ((ps.take (x.1 + 1)).flatMap (·.bs)).length = ((ps.take x.1).flatMap (·.bs)).length + s.bs.length := by rw [List.take_add_one, hi]; simp
      refine HW_skip rfl ?_
      refine gn_sq ?_
      refine HW_seq rfl ?_
      refine HW_block rfl ?_
      refine HW_seq rfl ?_
      refine HW_text (.pure 0 (.pure 1 (.pure 2 .done))) (by kernel_rfl) ?_
      refine rw_p rfl rfl (y_index rfl rfl sl89 rfl (by omega) (by omega)) ?_
      refine rw_p rfl rfl (y_el1 rfl sc22 (hq.ext0 hm.to).nt encS_len hi rfl) ?_
      refine rw_p rfl rfl (y_assign rfl) ?_
      refine rw_done ?_
      refine gn_sq ?_
      refine HW_text (.pure 0 (.pure 1 (.act 2 (.pure 3 .done)))) (by kernel_rfl) ?_
      refine rw_p rfl rfl (y_move rfl) ?_
      refine rw_p rfl rfl (y_move rfl) ?_
      refine a_append rfl rfl rfl rfl rfl rfl sl22 sl22 z5 rfl (oneB s.bs) ((hps s (List.mem_of_getElem? hi)).ext0 hm.to) (lenB s.bs) ha_s hm 0 rfl (by omega) (by omega) fun p_s cap_s g_s b_s w ha_s hm => ?_
      refine rw_p rfl rfl (y_assign rfl) ?_
      refine rw_done ?_
      refine gn_bl ?_
      refine gn_sq ?_
      refine HW_text (.pure 0 (.pure 1 .done)) (by kernel_rfl) ?_
      refine rw_p rfl rfl (y_add rfl rfl (i64w (by omega) (by omega))) ?_
      refine rw_p rfl rfl (y_move rfl) ?_
      refine rw_done ?_
      refine next (x.1 + 1, ⟨p_s, _, cap_s, g_s, b_s⟩) (by simp only; omega) ⟨hm, ha_s.to ?_, by simp only; omega⟩ ⟨nx x.1, rfl, rfl, rfl, rfl, trivial⟩
      simp only [List.take_add_one, hi, Option.toList, List.flatMap_append, List.flatMap_cons, List.flatMap_nil, List.append_nil]
    ·
      simp only [decide_eq_false_iff_not] at hc2
      have hke : x.1 = ps.length := by omega
      rw [hke, List.take_length] at ha_s
      refine HW_exit rfl ?_
      refine gx_sq (gx_lp ?_)
      refine gx_here ?_
      refine gn_sq ?_
      refine HW_seq rfl ?_
      refine HW_text (.pure 0 (.pure 1 .done)) (by kernel_rfl) ?_
      refine rw_p rfl rfl (y_move rfl) ?_
      refine rw_p rfl rfl (y_assign rfl) ?_
      refine rw_done ?_
      refine gn_sq ?_
      refine HW_ret rfl ?_
      refine toR (fin hret rfl (.tmp rfl .nil) .one ?_)
      exact ⟨_, _, _, _, _, rfl, ha_s, hm⟩

end Go.Proofs.YthailbggeafckaaGreat
