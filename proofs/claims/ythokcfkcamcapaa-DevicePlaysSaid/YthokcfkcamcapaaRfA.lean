/- Contracts of functions of the program: what each returns. Conditions: the hypotheses of each theorem. -/
import Derived.Test.YthokcfkcamcapaaLawB
set_option linter.unusedVariables false
set_option linter.unusedSimpArgs false
namespace Go.Proofs.Ythokcfkcamcapaa
open Go Go.Cx

theorem fo55_0 : fldO Try.prog 55 0 = some 0 := by kernel_rfl
theorem fo55_1 : fldO Try.prog 55 1 = some 1 := by kernel_rfl

set_option maxHeartbeats 800000 in
theorem rf_put (p : Option Addr) (cap : Nat) (f : List UInt8) (sz i : Nat) (q : Option Addr) (cq : Nat) (bs : List UInt8) (w0 : World) (hp : Rd w0 p (f.flatMap encB)) (hq : Rd w0 q (bs.flatMap encB)) (hle : f.length ≤ cap) (hsp : cap ≠ 0 → ∀ ad, p = some ad → ad.spot = none) (hb : bs.length = sz) (hi : i * sz + sz ≤ f.length) (hf : f.length ≤ 1048576) (h1 : 1 ≤ sz) : C Try.prog 40 [.slice p f.length cap, .int .i64 (sz : Int), .agg ⟨[.int .i64 (i : Int), .slice q bs.length cq]⟩] w0 fun v w' => ∃ q c g b, v = .slice q (Pl.putS sz f (i, bs)).length c ∧ Acc 5 1 q ((Pl.putS sz f (i, bs))).length c (((Pl.putS sz f (i, bs))).flatMap encB) g b ∧ Mem w0 w' No [(g, b)] := by
  have hi1 : (i + 1) * sz = i * sz + sz := by rw [Nat.add_mul, Nat.one_mul]
  have hi0 : i ≤ i * sz := Nat.le_mul_of_pos_right _ h1
  have hpl : (Pl.putS sz f (i, bs)).length = f.length := Pl.put_length (by rw [hb]; exact hi)
  refine C_of Try.func40 rfl rfl rfl fun κ hret hnorm => ?_
  have hm := Mem.start w0
  refine HW_seq rfl ?_
  refine HW_text (.act 0 (.pure 1 .done)) (by kernel_rfl) ?_
  refine a_box rfl rfl rfl rfl hm trivial fun m1 w hg_m1 hm hh => ?_
  refine rw_p rfl rfl (y_assign rfl) ?_
  refine rw_done ?_
  refine gn_sq ?_
  refine HW_seq rfl ?_
  refine HW_text (.act 0 (.pure 1 (.pure 2 (.pure 3 (.pure 4 (.pure 5 (.pure 6 (.act 7 (.pure 8 .done))))))))) (by kernel_rfl) ?_
  refine a_buildSlice (l := []) rfl rfl sl24 z5 rfl rfl rfl rfl rfl rfl rfl hm trivial fun m2 w hg_m2 hm hh => ?_
  refine rw_p rfl rfl (y_move rfl) ?_
  refine rw_p rfl rfl (y_fieldAddr rfl fo55_0) ?_
  refine rw_p rfl rfl (y_load rfl sc3 (hm.nt 1 rfl) rfl) ?_
  refine rw_p rfl rfl (y_move rfl) ?_
  refine rw_p rfl rfl (y_mul rfl rfl (mulN (by omega))) ?_
  refine rw_p rfl rfl (y_v (y_slice (ln := 0) (hn := (i * sz)) rfl sl24 rfl ⟨_, rfl⟩ (Nat.zero_le _) (by omega) (fun h => hsp (by omega))) (show _ = Value.slice (slp p cap 0 1) (f.take (i * sz)).length cap by rw [List.length_take, Nat.min_eq_left (by omega)]; rfl)) ?_
  refine a_append rfl rfl rfl rfl rfl rfl sl24 sl24 z5 rfl (oneB _) ((hp.ext0 hm.to).takeV hle) (lenB _) (Acc.row rfl) hm 0 rfl (by rw [List.length_take]; omega) (by rw [List.length_take]; omega) fun p_s cap_s g_s b_s w ha_s hm => ?_
  replace ha_s := ha_s.to (show _ = (f.take (i * sz)).flatMap encB from List.nil_append _)
  refine rw_p rfl rfl (y_assign rfl) ?_
  refine rw_done ?_
  refine gn_sq ?_
  refine HW_seq rfl ?_
  refine HW_text (.pure 0 (.pure 1 (.pure 2 (.act 3 (.pure 4 .done))))) (by kernel_rfl) ?_
  refine rw_p rfl rfl (y_move rfl) ?_
  refine rw_p rfl rfl (y_fieldAddr rfl fo55_1) ?_
  refine rw_p rfl rfl (y_load rfl sc24 (hm.nt 1 rfl) rfl) ?_
  refine a_append rfl rfl rfl rfl rfl rfl sl24 sl24 z5 rfl (oneB _) (hq.ext0 hm.to) (lenB _) ha_s hm 0 rfl (by rw [List.length_take]; omega) (by rw [List.length_take]; omega) fun p_s cap_s g_s b_s w ha_s hm => ?_
  refine rw_p rfl rfl (y_assign rfl) ?_
  refine rw_done ?_
  refine gn_sq ?_
  refine HW_seq rfl ?_
  refine HW_text (.pure 0 (.pure 1 (.pure 2 (.pure 3 (.pure 4 (.pure 5 (.pure 6 (.pure 7 (.act 8 (.pure 9 .done)))))))))) (by kernel_rfl) ?_
  refine rw_p rfl rfl (y_move rfl) ?_
  refine rw_p rfl rfl (y_move rfl) ?_
  refine rw_p rfl rfl (y_fieldAddr rfl fo55_0) ?_
  refine rw_p rfl rfl (y_load rfl sc3 (hm.nt 1 rfl) rfl) ?_
  refine rw_p rfl rfl (y_add rfl rfl (addN (by omega))) ?_
  refine rw_p rfl rfl (y_move rfl) ?_
  refine rw_p rfl rfl (y_mul rfl rfl (mulN (by omega))) ?_
  refine rw_p rfl rfl (y_v (y_slice (ln := ((i + 1) * sz)) (hn := f.length) rfl sl24 ⟨_, rfl⟩ rfl (by omega) hle (fun h => hsp (by omega))) (show _ = Value.slice (slp p cap ((i + 1) * sz) 1) (f.drop ((i + 1) * sz)).length (cap - (i + 1) * sz) by rw [List.length_drop])) ?_
  refine a_append rfl rfl rfl rfl rfl rfl sl24 sl24 z5 rfl (oneB _) ((hp.ext0 hm.to).dropV hle) (lenB _) ha_s hm 0 rfl (by rw [List.length_take, List.length_drop]; omega) (by rw [List.length_take, List.length_drop]; omega) fun p_s cap_s g_s b_s w ha_s hm => ?_
  replace ha_s := ha_s.to (show _ = (Pl.putS sz f (i, bs)).flatMap encB by rw [← Pl.putS_eq sz f i bs hb, List.flatMap_append, List.flatMap_append])
  have hns := ha_s.lenB
  refine rw_p rfl rfl (y_assign rfl) ?_
  refine rw_done ?_
  refine gn_sq ?_
  refine HW_ret rfl ?_
  refine toR (fin hret rfl (.tmp rfl .nil) .one ?_)
  exact ⟨p_s, cap_s, g_s, b_s, by rw [← hns], by rw [← hns]; exact ha_s, (hm.pick [0] rfl)⟩

end Go.Proofs.Ythokcfkcamcapaa
