/- Contracts of functions of the program: what each returns. Conditions: the hypotheses of each theorem. -/
import Derived.Test.YtcngaknlagocdaaDlF
set_option linter.unusedVariables false
set_option linter.unusedSimpArgs false
namespace Go.Proofs.Ytcngaknlagocdaa
open Go Go.Cx

theorem go11 : isGo Try.prog 11 = true := by kernel_rfl
theorem go12 : isGo Try.prog 12 = true := by kernel_rfl

set_option maxHeartbeats 400000 in
theorem law_alive (w0 : World) : C Try.prog 10 [] w0 fun v w' => v = .bool true ∧ Ext No w0 w' := by
  refine C_of Try.func10 rfl rfl rfl fun κ hret hnorm => ?_
  have hm := Mem.start w0
  refine HW_seq rfl ?_
  refine HW_text (.pure 0 .done) (by kernel_rfl) ?_
  refine rw_p rfl rfl (y_assign rfl) ?_
  refine rw_done ?_
  refine gn_sq ?_
  refine HW_seq rfl ?_
  refine HW_text (.pure 0 (.act 1 (.act 2 .done))) (by kernel_rfl) ?_
  refine rw_p rfl rfl (y_build (cs := [_, _, _, _, _]) z24 ft24 rfl rfl rfl rfl rfl) ?_
  refine a_alloc rfl rfl z24 hm trivial fun m1 w hg_m1 hm hh => ?_
  refine a_store rfl rfl rfl rfl sz24 rfl hm 0 rfl rfl fun w hm => ?_
  refine rw_done ?_
  refine gn_sq ?_
  refine HW_seq rfl ?_
  refine HW_text (.pure 0 (.act 1 (.pure 2 .done))) (by kernel_rfl) ?_
  refine rw_p rfl rfl (y_loadA (s := 5) (vs := [_, _, _, _, _]) rfl ag24 (hm.nt 0 rfl) rfl) ?_
  refine a_call rfl rfl rfl go11 (ch_split (⟨1, 3, 0, 5, []⟩ : Pl.Cm) none 0 2 _ ⟨rfl, by simp, by simp, by simp⟩ (by simp) (by decide +kernel) (by decide)) fun v w hR => ?_
  obtain ⟨xs_t, p_t, n_t, cap_t, g_t, b_t, B_t, rfl, ha_t, hx_t, hh_t, hmc⟩ := hR
  refine ⟨trivial, ?_⟩
  replace hm := hm.callT1 hmc
  obtain rfl := ha_t.lenE encC_len (by decide)
  have hcl : (Pl.chunks (⟨1, 3, 0, 5, []⟩ : Pl.Cm) 2).length = 3 := by decide +kernel
  have hxl := congrArg List.length hx_t
  rw [List.length_map, hcl] at hxl
  refine rw_p rfl rfl (y_assign rfl) ?_
  refine rw_done ?_
  refine gn_sq ?_
  refine HW_seq rfl ?_
  refine HW_text (.pure 0 (.pure 1 (.pure 2 (.act 3 (.pure 4 .done))))) (by kernel_rfl) ?_
  refine rw_p rfl rfl (y_build (cs := [_, _, _, _, _]) z24 ft24 rfl rfl rfl rfl rfl) ?_
  refine rw_p rfl rfl (y_build (cs := [_, _, _, _, _]) z24 ft24 rfl rfl rfl rfl rfl) ?_
  refine rw_p rfl rfl (y_build (cs := [_, _, _, _, _]) z24 ft24 rfl rfl rfl rfl rfl) ?_
  refine a_buildSlice (l := [_, _, _, _, _, _, _, _, _, _, _, _, _, _, _]) rfl rfl sl27 z24 rfl rfl rfl rfl rfl rfl rfl hm trivial fun m2 w hg_m2 hm hh => ?_
  refine rw_p rfl rfl (y_assign rfl) ?_
  refine rw_done ?_
  refine gn_sq ?_
  refine HW_seq rfl ?_
  refine HW_text (.pure 0 (.pure 1 (.act 2 (.pure 3 (.pure 4 (.act 5 (.pure 6 (.pure 7 (.pure 8 (.act 9 (.pure 10 (.pure 11 (.pure 12 .done))))))))))))) (by kernel_rfl) ?_
  refine rw_p rfl rfl (y_move rfl) ?_
  refine rw_p rfl rfl (y_move rfl) ?_
  refine a_call rfl rfl rfl go12 (C.as (v := .bool true) (r4_all p_t _ cap_t _ xs_t [mkC ⟨1, 7, 4, 1, []⟩ none 0, mkC ⟨1, 5, 2, 2, []⟩ none 0, mkC ⟨1, 3, 0, 2, []⟩ none 0] _ (ha_t.rd hm 1 rfl) (Rd.row0 (hm.get (k := 0) rfl)) (fun y hy => (hh_t y hy).rd hm (by intro e he; simp [he])) (by simp only [List.mem_cons, List.not_mem_nil, or_false]; rintro _ (rfl | rfl | rfl) <;> rfl) (by omega) (by decide)) (congrArg Value.bool (by rw [hx_t]; decide +kernel))) fun v w hR => ?_
  obtain ⟨rfl, hE⟩ := hR
  refine ⟨trivial, ?_⟩
  replace hm := hm.ext hE
  refine rw_p rfl rfl (y_move rfl) ?_
  refine rw_p rfl rfl (y_loadA (s := 5) (vs := [_, _, _, _, _]) rfl ag24 (hm.nt 2 rfl) rfl) ?_
  refine a_call rfl rfl rfl go15 (C.as (v := .bool true) (ch_down (⟨1, 3, 0, 5, []⟩ : Pl.Cm) none 0 _ (by decide +kernel)) (congrArg Value.bool (by decide +kernel))) fun v w hR => ?_
  obtain ⟨rfl, hE⟩ := hR
  refine ⟨trivial, ?_⟩
  replace hm := hm.ext hE
  refine rw_p rfl rfl (y_pickT rfl rfl) ?_
  refine rw_p rfl rfl (y_move rfl) ?_
  refine rw_p rfl rfl (y_loadA (s := 5) (vs := [_, _, _, _, _]) rfl ag24 (hm.nt 2 rfl) rfl) ?_
  refine a_call rfl rfl rfl go14 (ch_count (⟨1, 3, 0, 5, []⟩ : Pl.Cm) none 0 2 _ (by decide +kernel) (by decide)) fun v w hR => ?_
  obtain ⟨rfl, hE⟩ := hR
  refine ⟨trivial, ?_⟩
  replace hm := hm.ext hE
  refine rw_p rfl rfl (y_as (c := true) (y_eq rfl rfl) (by decide +kernel)) ?_
  refine rw_p rfl rfl (y_pickT rfl rfl) ?_
  refine rw_p rfl rfl (y_assign rfl) ?_
  refine rw_done ?_
  refine gn_sq ?_
  refine HW_ret rfl ?_
  refine toR (fin hret rfl (.tmp rfl .nil) .one ?_)
  exact ⟨rfl, hm.to⟩

end Go.Proofs.Ytcngaknlagocdaa
