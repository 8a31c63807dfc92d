/- Contracts of functions of the program: what each returns. Conditions: the hypotheses of each theorem. -/
import Derived.Test.YtdiklnekplhhgaaChecked
import Derived.Test.YtdiklnekplhhgaaEnA
set_option linter.unusedVariables false
set_option linter.unusedSimpArgs false
namespace Go.Proofs.Ytdiklnekplhhgaa
open Go Go.Cx

theorem sb22 : slcB Try.prog 22 = true := by kernel_rfl
theorem sl22 : slcO Try.prog 22 = some (5, 1, 1) := by kernel_rfl
theorem z5 : zer Try.prog 5 = some [.int .u8 0] := by kernel_rfl

theorem clone_b (p : Option Addr) (cap : Nat) (xs : List UInt8) (w0 : World) (hx : Rd w0 p (xs.flatMap encB)) (hlen : xs.length * 1 ≤ 140737488355328) : C Try.prog 35 [.slice p xs.length cap] w0 fun v w' => ∃ q c g b, v = .slice q xs.length c ∧ Acc 5 1 q xs.length c (xs.flatMap encB) g b ∧ Mem w0 w' No [(g, b)] := by
  refine C_of Try.func35 rfl rfl rfl fun κ hret hnorm => ?_
  have hm := Mem.start w0
  refine HW_seq rfl ?_
  refine HW_text (.pure 0 .done) (by kernel_rfl) ?_
  refine rw_p rfl rfl (y_assign rfl) ?_
  refine rw_done ?_
  refine gn_sq ?_
  refine HW_seq rfl ?_
  refine HW_seq rfl ?_
  refine HW_text (.pure 0 (.pure 1 .done)) (by kernel_rfl) ?_
  refine rw_p rfl rfl (y_move rfl) ?_
  refine rw_p rfl rfl (y_snil rfl rfl sb22) ?_
  refine rw_done ?_
  refine gn_sq ?_
  refine HW_cond rfl rfl (fun hc0 => ?_) (fun hc0 => ?_)
  ·
    obtain rfl : p = none := by simpa using hc0
    obtain rfl := nilB hx
    refine HW_seq rfl ?_
    refine HW_text (.pure 0 .done) (by kernel_rfl) ?_
    refine rw_p rfl rfl (y_assign rfl) ?_
    refine rw_done ?_
    refine gn_sq ?_
    refine HW_ret rfl ?_
    refine gr_sq ?_
    refine toR (fin hret rfl (.tmp rfl .nil) .one ?_)
    exact ⟨none, 0, 0, .gap, rfl, .nil _ _ _ _, hm.gapIn⟩
  ·
    refine HW_skip rfl ?_
    refine gn_sq ?_
    refine HW_seq rfl ?_
    refine HW_text (.act 0 (.pure 1 (.act 2 (.pure 3 .done)))) (by kernel_rfl) ?_
    refine a_buildSlice (l := []) rfl rfl sl22 z5 rfl rfl rfl rfl rfl rfl rfl hm trivial fun m1 w hg_m1 hm hh => ?_
    refine rw_p rfl rfl (y_move rfl) ?_
    refine a_append rfl rfl rfl rfl rfl rfl sl22 sl22 z5 rfl (oneB xs) (hx.ext0 hm.to) (lenB xs) (Acc.row rfl) hm 0 rfl (by omega) (by omega) fun p_s1 cap_s1 g_s1 b_s1 w ha_s1 hm => ?_
    refine rw_p rfl rfl (y_assign rfl) ?_
    refine rw_done ?_
    refine gn_sq ?_
    refine HW_ret rfl ?_
    refine toR (fin hret rfl (.tmp rfl .nil) .one ?_)
    exact ⟨p_s1, cap_s1, g_s1, b_s1, by rw [Nat.zero_add], by simpa only [Nat.zero_add, List.nil_append] using ha_s1, hm⟩

end Go.Proofs.Ytdiklnekplhhgaa
