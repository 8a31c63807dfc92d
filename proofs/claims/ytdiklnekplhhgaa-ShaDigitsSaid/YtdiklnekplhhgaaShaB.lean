/- Contracts of functions of the program: what each returns. Conditions: the hypotheses of each theorem. -/
import Derived.Test.YtdiklnekplhhgaaSha
set_option linter.unusedVariables false
set_option linter.unusedSimpArgs false
namespace Go.Proofs.Ytdiklnekplhhgaa
open Go Go.Cx

theorem fo51_1 : fldO Try.prog 51 1 = some 8 := by kernel_rfl
theorem fo51_2 : fldO Try.prog 51 2 = some 9 := by kernel_rfl
theorem go34 : isGo Try.prog 34 = true := by kernel_rfl
theorem sc22 : scal Try.prog 22 = true := by kernel_rfl
theorem sc3 : scal Try.prog 3 = true := by kernel_rfl
theorem sz22 : szO Try.prog 22 = some 1 := by kernel_rfl
theorem sz3 : szO Try.prog 3 = some 1 := by kernel_rfl

set_option maxHeartbeats 800000 in
theorem h_take (bs : List UInt8) (q : Option Addr) (cq : Nat) (TT m : Nat) (msg : List UInt8) (Z : List (Nat × Blk)) (w0 : World) (hZ : OwnZ w0 Z) (hz : HashZ TT 5 msg m Z) (hml : msg.length ≤ 1000000000000) (hq : Rd w0 q (bs.flatMap encB)) (hap : bs.flatMap encB ≠ [] → ∀ ad, q = some ad → ¬ Mn (reals Z) ad.block) (hbl : bs.length ≤ 1000000000000) : C Try.prog 25 [.pointer (some ⟨m, 0, none⟩), .slice q bs.length cq] w0 fun v w' => v = .tuple ⟨[]⟩ ∧ ∃ Z', HashZ TT 5 (msg ++ bs) m Z' ∧ Mem w0 w' (Mn (reals Z)) Z' := by
  have hm0 := hZ.start
  generalize Mn (reals Z) = X at hap hm0 ⊢
  obtain ⟨p, cap, g, b, rfl, ha⟩ := hz
  have hrl := Pl.shRest_len msg
  refine C_of Try.func25 rfl rfl rfl fun κ hret hnorm => ?_
  have hm := hm0
  refine HW_seq rfl ?_
  refine HW_text (.pure 0 (.pure 1 (.pure 2 (.pure 3 (.pure 4 (.pure 5 (.pure 6 (.pure 7 (.pure 8 (.act 9 .done)))))))))) (by kernel_rfl) ?_
  refine rw_p rfl rfl (y_move rfl) ?_
  refine rw_p rfl rfl (y_nil rfl) ?_
  refine rw_p rfl rfl (y_fieldAddr rfl fo51_2) ?_
  refine rw_p rfl rfl (y_load rfl sc3 (hm.nt 0 rfl) rfl) ?_
  refine rw_p rfl rfl (y_move rfl) ?_
  refine rw_p rfl rfl (y_len rfl rfl sl22) ?_
  refine rw_p rfl rfl (y_add rfl rfl ((addK _ (by omega)).trans (show _ = (((msg ++ bs).length : Nat) : Int) by rw [List.length_append]))) ?_
  refine rw_p rfl rfl (y_nil rfl) ?_
  refine rw_p rfl rfl (y_fieldAddr rfl fo51_2) ?_
  refine a_store rfl rfl rfl rfl sz3 rfl hm 0 rfl rfl fun w hm => ?_
  refine rw_done ?_
  refine gn_sq ?_
  refine HW_seq rfl ?_
  refine HW_text (.pure 0 (.pure 1 (.pure 2 (.pure 3 (.pure 4 (.pure 5 (.act 6 (.pure 7 (.pure 8 (.act 9 .done)))))))))) (by kernel_rfl) ?_
  refine rw_p rfl rfl (y_move rfl) ?_
  refine rw_p rfl rfl (y_move rfl) ?_
  refine rw_p rfl rfl (y_nil rfl) ?_
  refine rw_p rfl rfl (y_fieldAddr rfl fo51_1) ?_
  refine rw_p rfl rfl (y_load rfl sc22 (hm.nt 0 rfl) rfl) ?_
  refine rw_p rfl rfl (y_move rfl) ?_
  refine a_appendO rfl rfl rfl rfl rfl rfl sl22 sl22 z5 rfl (oneB bs) (hq.extN hm.to hap) (lenB bs) ha hm 1 rfl (by omega) (by omega) fun p_s cap_s g_s b_s w ha_s hm => ?_
  have hR0 := Pl.shRest_app msg bs
  have hS0 := Pl.shFold_st msg bs
  have hLr : (Pl.shRest msg ++ bs).length = (Pl.shRest msg).length + bs.length := List.length_append
  refine rw_p rfl rfl (y_nil rfl) ?_
  refine rw_p rfl rfl (y_fieldAddr rfl fo51_1) ?_
  refine a_store rfl rfl rfl rfl sz22 rfl hm 0 rfl rfl fun w hm => ?_
  refine rw_done ?_
  refine gn_sq ?_
  refine HW_block rfl ?_
  refine HW_loopK (ι := Nat) rfl (ks := [0]) (.cons rfl .nil) (fun k => []) (fun k w => ∃ p9 c9, Mem w0 w X [(m, .row TT (stV (Pl.shFold Pl.shI (msg ++ bs) k) (.slice p9 ((msg ++ bs).drop (64 * k)).length c9) ((msg ++ bs).length : Int))), (g_s, b_s)] ∧ Acco 5 1 p9 ((msg ++ bs).drop (64 * k)).length c9 (((msg ++ bs).drop (64 * k)).flatMap encB) g_s b_s ∧ 64 * k ≤ (msg ++ bs).length) (fun k => (msg ++ bs).length + 1 - 64 * k) (msg.length / 64) (⟨p_s, cap_s, by rw [hR0, hS0, hLr]; exact hm, by rw [hR0, hLr, List.flatMap_append]; exact ha_s, by rw [List.length_append]; omega⟩) trivial (fun k w hM => ?_)
  obtain ⟨p9, c9, hm, ha, hk⟩ := hM
  refine HW_seq rfl ?_
  refine HW_seq rfl ?_
  refine HW_text (.pure 0 (.pure 1 (.pure 2 (.pure 3 (.pure 4 (.pure 5 .done)))))) (by kernel_rfl) ?_
  refine rw_p rfl rfl (y_move rfl) ?_
  refine rw_p rfl rfl (y_nil rfl) ?_
  refine rw_p rfl rfl (y_fieldAddr rfl fo51_1) ?_
  refine rw_p rfl rfl (y_load rfl sc22 (hm.nt 0 rfl) rfl) ?_
  refine rw_p rfl rfl (y_len rfl rfl sl22) ?_
  refine rw_p rfl rfl (y_ge rfl rfl) ?_
  refine rw_done ?_
  refine gn_sq ?_
  refine HW_cond rfl rfl (fun hc0 => ?_) (fun hc0 => ?_)
  ·
    simp only [decide_eq_true_eq] at hc0
    have hle9 := ha.le
    have hk9 : ((msg ++ bs).drop (64 * k)).length = (msg ++ bs).length - 64 * k := List.length_drop
    have hLd : (((msg ++ bs).drop (64 * k)).drop 64).length = ((msg ++ bs).drop (64 * k)).length - 64 := List.length_drop
    refine HW_skip rfl ?_
    refine gn_sq ?_
    refine HW_block rfl ?_
    refine HW_seq rfl ?_
    refine HW_text (.pure 0 (.pure 1 (.pure 2 (.pure 3 (.pure 4 (.pure 5 (.act 6 .done))))))) (by kernel_rfl) ?_
    refine rw_p rfl rfl (y_move rfl) ?_
    refine rw_p rfl rfl (y_move rfl) ?_
    refine rw_p rfl rfl (y_nil rfl) ?_
    refine rw_p rfl rfl (y_fieldAddr rfl fo51_1) ?_
    refine rw_p rfl rfl (y_load rfl sc22 (hm.nt 0 rfl) rfl) ?_
    refine rw_p rfl rfl (y_slice (ln := 0) (hn := 64) rfl sl22 rfl ⟨_, rfl⟩ (by omega) (by omega) (fun h => ha.spot (by omega))) ?_
    refine a_call rfl rfl rfl go34 (h_block TT m _ _ _ _ _ (((msg ++ bs).drop (64 * k)).take 64) _ (hm.get (k := 0) rfl) ((ha.rdM hm (by simp)).take0 ha.le) (ha.apart0 hm 1 0 rfl rfl rfl 64 rfl) (by rw [List.length_take]; omega)) fun v w hR => ?_
    obtain ⟨rfl, hmc⟩ := hR
    refine ⟨trivial, ?_⟩
    replace hm := hm.callJ 0 rfl hmc
    refine rw_done ?_
    refine gn_sq ?_
    refine HW_text (.pure 0 (.pure 1 (.pure 2 (.pure 3 (.pure 4 (.pure 5 (.pure 6 (.pure 7 (.act 8 .done))))))))) (by kernel_rfl) ?_
    refine rw_p rfl rfl (y_move rfl) ?_
    refine rw_p rfl rfl (y_move rfl) ?_
    refine rw_p rfl rfl (y_nil rfl) ?_
    refine rw_p rfl rfl (y_fieldAddr rfl fo51_1) ?_
    refine rw_p rfl rfl (y_load rfl sc22 (hm.nt 0 rfl) rfl) ?_
    refine rw_p rfl rfl (y_slice (ln := 64) (hn := ((msg ++ bs).drop (64 * k)).length) rfl sl22 ⟨_, rfl⟩ rfl (by omega) (by omega) (fun h => ha.spot (by omega))) ?_
    refine rw_p rfl rfl (y_nil rfl) ?_
    refine rw_p rfl rfl (y_fieldAddr rfl fo51_1) ?_
    refine a_store rfl rfl rfl rfl sz22 rfl hm 0 rfl rfl fun w hm => ?_
    refine rw_done ?_
    refine gn_bl ?_
    refine next (k + 1) (by omega) ⟨slp p9 c9 64 1, c9 - 64, ?_, ?_, by omega⟩ ⟨rfl, trivial⟩
    · rw [Pl.sh_drop, hLd]; exact hm
    · rw [Pl.sh_drop, hLd, ← dropB]; exact ha.cut (by omega)
  ·
    simp only [decide_eq_false_iff_not] at hc0
    have hke := Pl.sh_stop hk (by omega)
    subst hke
    refine HW_exit rfl ?_
    refine gx_sq (gx_lp ?_)
    refine gx_here ?_
    refine toN (fin hnorm rfl .nil .nil ?_)
    exact ⟨rfl, _, ⟨_, _, _, _, rfl, ha⟩, hm⟩

end Go.Proofs.Ytdiklnekplhhgaa
