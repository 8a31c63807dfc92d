/- Contracts of functions of the program: what each returns. Conditions: the hypotheses of each theorem. -/
import Derived.Test.YtpandemmaoeioaaLaw
set_option linter.unusedVariables false
set_option linter.unusedSimpArgs false
namespace Go.Proofs.Ytpandemmaoeioaa
open Go Go.Cx

theorem cb32 : slB8 Try.prog 32 = true := by kernel_rfl
theorem fo36_0 : fldO Try.prog 36 0 = some 0 := by kernel_rfl
theorem fo36_1 : fldO Try.prog 36 1 = some 1 := by kernel_rfl
theorem go11 : isGo Try.prog 11 = true := by kernel_rfl
theorem go17 : isGo Try.prog 17 = true := by kernel_rfl
theorem go19 : isGo Try.prog 19 = true := by kernel_rfl

set_option maxHeartbeats 800000 in
theorem law_alive (w0 : World) : C Try.prog 10 [] w0 fun v w' => v = .bool true ∧ Ext No w0 w' := by
  refine C_of Try.func10 rfl rfl rfl fun κ hret hnorm => ?_
  have hm := Mem.start w0
  refine HW_seq rfl ?_
  refine HW_text (.pure 0 .done) (by kernel_rfl) ?_
  refine rw_p rfl rfl (y_assign rfl) ?_
  refine rw_done ?_
  refine gn_sq ?_
  refine HW_seq rfl ?_
  refine HW_text (.pure 0 (.act 1 (.act 2 (.pure 3 (.act 4 (.act 5 (.pure 6 .done))))))) (by kernel_rfl) ?_
  refine rw_p rfl rfl (y_build (cs := [_, _, _, _, _]) z34 ft34 rfl rfl rfl rfl rfl) ?_
  refine a_buildSlice (l := [_, _, _]) rfl rfl sl32 z5 rfl rfl rfl rfl rfl rfl rfl hm trivial fun m1 w hg_m1 hm hh => ?_
  refine a_mkd rfl rfl rfl cb32 hm 0 rfl fun w hm => ?_
  refine rw_p rfl rfl (y_build (cs := [_, _, _, _, _]) z34 ft34 rfl rfl rfl rfl rfl) ?_
  refine a_buildSlice (l := [_, _, _, _, _, _, _, _, _, _]) rfl rfl sl22 z34 rfl rfl rfl rfl rfl rfl rfl hm trivial fun m2 w hg_m2 hm hh => ?_
  have hcs : ([⟨1, 1, 0, 3, ⟨none, 0, []⟩⟩, ⟨2, 9, 0, 0, ⟨some ⟨m1, 0, none⟩, 3, [97, 98, 99]⟩⟩] : List CmdV).map CmdV.cm = [(⟨1, 1, 0, 3, []⟩ : Pl.Cm), (⟨2, 9, 0, 0, [97, 98, 99]⟩ : Pl.Cm)] := rfl
  have hfw : Pl.fewC 2 (([⟨1, 1, 0, 3, ⟨none, 0, []⟩⟩, ⟨2, 9, 0, 0, ⟨some ⟨m1, 0, none⟩, 3, [97, 98, 99]⟩⟩] : List CmdV).map CmdV.cm) := by rw [hcs]; intro c hc; simp only [List.mem_cons, List.not_mem_nil, or_false] at hc; rcases hc with rfl | rfl <;> decide +kernel
  have hmx : ([⟨1, 1, 0, 3, ⟨none, 0, []⟩⟩, ⟨2, 9, 0, 0, ⟨some ⟨m1, 0, none⟩, 3, [97, 98, 99]⟩⟩] : List CmdV).length ≤ 1000000 ∧ Pl.first 2 (([⟨1, 1, 0, 3, ⟨none, 0, []⟩⟩, ⟨2, 9, 0, 0, ⟨some ⟨m1, 0, none⟩, 3, [97, 98, 99]⟩⟩] : List CmdV).map CmdV.cm) (([⟨1, 1, 0, 3, ⟨none, 0, []⟩⟩, ⟨2, 9, 0, 0, ⟨some ⟨m1, 0, none⟩, 3, [97, 98, 99]⟩⟩] : List CmdV).map CmdV.cm).length ≤ 4611686018427387903 := by rw [hcs]; exact ⟨by simp, by decide +kernel⟩
  have hT9 : (Pl.total 0 (Pl.targets (([⟨1, 1, 0, 3, ⟨none, 0, []⟩⟩, ⟨2, 9, 0, 0, ⟨some ⟨m1, 0, none⟩, 3, [97, 98, 99]⟩⟩] : List CmdV).map CmdV.cm))).isSome = true := by rw [hcs]; decide +kernel
  have hw9 : ∀ c ∈ ([⟨1, 1, 0, 3, ⟨none, 0, []⟩⟩, ⟨2, 9, 0, 0, ⟨some ⟨m1, 0, none⟩, 3, [97, 98, 99]⟩⟩] : List CmdV), Pl.ccheck c.cm = 0 ∧ c.d.ok w ∧ c.d.bs.length ≤ 140737488355328 := by
    simp only [List.mem_cons, List.not_mem_nil, or_false]
    rintro c (rfl | rfl)
    · exact ⟨rfl, ⟨rfl, by simp, by simp, by simp⟩, by simp⟩
    · exact ⟨rfl, ⟨Rd.mkd (hm.get (k := 1) rfl), by simp, fun _ _ h => by cases h; rfl, by simp⟩, by simp⟩
  refine a_call rfl rfl rfl go11 (p_newS 2 _ 2 ([⟨1, 1, 0, 3, ⟨none, 0, []⟩⟩, ⟨2, 9, 0, 0, ⟨some ⟨m1, 0, none⟩, 3, [97, 98, 99]⟩⟩] : List CmdV) _ (Rd.row0 (hm.get (k := 0) rfl)) hw9 (by simp [Pl.I64]) hfw hmx hT9) fun v w hR => ?_
  obtain ⟨m_p, p_f, p_b, p_l, cap_f, cap_b, cap_l, g_f, g_b, g_l, b_f, b_b, b_l, ys, B_y, rfl, ha_f, ha_b, ha_l, hym, hH, hmc⟩ := hR
  refine ⟨trivial, ?_⟩
  replace hm := hm.callT (N1 := [_, _, _, _]) hmc
  have hfw9 := hfw
  have hmx9 := hmx
  have hyl : ys.length = 2 := by have := congrArg List.length hym; simpa using this
  rw [← hym] at hfw9
  have hmx9 : (ys.map CmdV.cm).length ≤ 1000000 ∧ Pl.first 2 (ys.map CmdV.cm) (ys.map CmdV.cm).length ≤ 4611686018427387903 := by rw [hym]; exact ⟨by rw [List.length_map]; exact hmx.1, hmx.2⟩
  have hdl : ∀ y ∈ ys, y.d.bs.length ≤ 140737488355328 := fun y hy => by
    have hy9 : y.cm ∈ ys.map CmdV.cm := List.mem_map.2 ⟨y, hy, rfl⟩
    rw [hym] at hy9
    obtain ⟨c9, hc9, e9⟩ := List.mem_map.1 hy9
    have h9 := (hw9 c9 hc9).2.2
    have e8 : c9.d.bs = y.d.bs := congrArg Pl.Cm.bs e9
    rw [← e8]; exact h9
  have hyc : (ys.map CmdV.cm) = [(⟨1, 1, 0, 3, []⟩ : Pl.Cm), (⟨2, 9, 0, 0, [97, 98, 99]⟩ : Pl.Cm)] := hym
  refine rw_p rfl rfl (y_assign rfl) ?_
  refine rw_done ?_
  refine gn_sq ?_
  refine HW_seq rfl ?_
  refine HW_seq rfl ?_
  refine HW_text (.pure 0 (.pure 1 .done)) (by kernel_rfl) ?_
  refine rw_p rfl rfl (y_move rfl) ?_
  refine rw_p rfl rfl (y_pnil rfl rfl pb25) ?_
  refine rw_done ?_
  refine gn_sq ?_
  refine HW_condF rfl rfl rfl ?_
  refine HW_skip rfl ?_
  refine gn_sq ?_
  refine HW_seq rfl ?_
  refine HW_text (.pure 0 (.act 1 (.pure 2 (.pure 3 (.pure 4 (.act 5 (.act 6 (.pure 7 .done)))))))) (by kernel_rfl) ?_
  refine rw_p rfl rfl (y_move rfl) ?_
  refine a_call rfl rfl rfl go15 (p_atG 1 m_p 2 p_f cap_f p_b cap_b p_l cap_l ys _ (hm.get (k := 0) rfl) (ha_f.rd hm 1 rfl) (ha_b.rd hm 2 rfl) (ha_l.rd hm 3 rfl) hfw9 hmx9 (fun y hy => ⟨(hH y hy).okN hm (by intro e he; simp [he, setB]), hdl y hy⟩) (by simp [Pl.I64]) (by simp [Pl.I64]) (by rw [hyc]; decide +kernel)) fun v w hR => ?_
  obtain ⟨k_t, d_t, p_t, n_t, cap_t, g_t, b_t, rfl, ha_t, hst_t, hmc⟩ := hR
  refine ⟨trivial, ?_⟩
  replace hm := hm.callN hmc
  obtain rfl := ha_t.lenB
  have e9 : (Pl.steps 2 0 [(⟨1, 1, 0, 3, []⟩ : Pl.Cm), (⟨2, 9, 0, 0, [97, 98, 99]⟩ : Pl.Cm)])[1]? = some (0, (⟨1, 1, 0, 2, []⟩ : Pl.Cm)) := by decide +kernel
  rw [hyc] at hst_t
  obtain ⟨rfl, rfl⟩ := Prod.mk.inj (Option.some.inj (hst_t.symm.trans e9))
  refine rw_p rfl rfl (y_move rfl) ?_
  refine rw_p rfl rfl (y_extract rfl rfl) ?_
  refine rw_p rfl rfl (y_extract rfl rfl) ?_
  refine a_alloc rfl rfl z36 hm trivial fun m3 w hg_m3 hm hh => ?_
  refine a_store rfl rfl rfl rfl sz36 rfl hm 0 rfl rfl fun w hm => ?_
  refine rw_p rfl rfl (y_assign rfl) ?_
  refine rw_done ?_
  refine gn_sq ?_
  refine HW_seq rfl ?_
  refine HW_text (.pure 0 (.act 1 (.pure 2 (.pure 3 (.pure 4 (.pure 5 (.pure 6 (.pure 7 (.pure 8 (.pure 9 (.pure 10 (.pure 11 (.pure 12 (.pure 13 (.pure 14 (.pure 15 (.pure 16 (.pure 17 (.pure 18 (.pure 19 (.act 20 (.pure 21 (.pure 22 (.pure 23 (.act 24 (.pure 25 (.pure 26 (.pure 27 (.pure 28 (.act 29 (.pure 30 (.pure 31 (.pure 32 .done))))))))))))))))))))))))))))))))) (by kernel_rfl) ?_
  refine rw_p rfl rfl (y_move rfl) ?_
  refine a_call rfl rfl rfl go14 (p_len m_p 2 p_f cap_f p_b cap_b p_l cap_l ys _ (hm.get (k := 2) rfl) (ha_f.rd hm 3 rfl) (ha_b.rd hm 4 rfl) (ha_l.rd hm 5 rfl) hfw9 hmx9) fun v w hR => ?_
  obtain ⟨rfl, hE⟩ := hR
  refine ⟨trivial, ?_⟩
  replace hm := hm.ext hE
  refine rw_p rfl rfl (y_as (c := true) (y_eq rfl rfl) (by rw [hyc]; decide +kernel)) ?_
  refine rw_p rfl rfl (y_move rfl) ?_
  refine rw_p rfl rfl (y_move rfl) ?_
  refine rw_p rfl rfl (y_pickT rfl rfl) ?_
  refine rw_p rfl rfl (y_move rfl) ?_
  refine rw_p rfl rfl (y_fieldAddr rfl fo36_0) ?_
  refine rw_p rfl rfl (y_load rfl sc3 (hm.nt 0 rfl) rfl) ?_
  refine rw_p rfl rfl (y_as (c := true) (y_eq rfl rfl) (by decide)) ?_
  refine rw_p rfl rfl (y_pickT rfl rfl) ?_
  refine rw_p rfl rfl (y_move rfl) ?_
  refine rw_p rfl rfl (y_fieldAddr rfl fo36_1) ?_
  refine rw_p rfl rfl (y_load rfl sc3 (hm.nt 0 rfl) rfl) ?_
  refine rw_p rfl rfl (y_as (c := true) (y_eq rfl rfl) (by decide)) ?_
  refine rw_p rfl rfl (y_pickT rfl rfl) ?_
  refine rw_p rfl rfl (y_move rfl) ?_
  refine rw_p rfl rfl (y_fieldAddr rfl fo36_2) ?_
  refine rw_p rfl rfl (y_loadA (s := 5) (vs := [_, _, _, _, _]) rfl ag34 (hm.nt 0 rfl) rfl) ?_
  refine rw_p rfl rfl (y_build (cs := [_, _, _, _, _]) z34 ft34 rfl rfl rfl rfl rfl) ?_
  refine a_call rfl rfl rfl go29 (C.as (v := .bool true) (r4_same (⟨1, 1, 0, 2, []⟩ : Pl.Cm) (⟨1, 1, 0, 2, []⟩ : Pl.Cm) p_t none cap_t 0 _ (ha_t.rd hm 1 rfl) rfl) (congrArg Value.bool (by decide +kernel))) fun v w hR => ?_
  obtain ⟨rfl, hE⟩ := hR
  refine ⟨trivial, ?_⟩
  replace hm := hm.ext hE
  refine rw_p rfl rfl (y_pickT rfl rfl) ?_
  refine rw_p rfl rfl (y_move rfl) ?_
  refine rw_p rfl rfl (y_move rfl) ?_
  refine a_call rfl rfl rfl go17 (p_first 1 m_p 2 p_f cap_f p_b cap_b p_l cap_l ys _ (hm.get (k := 2) rfl) (ha_f.rd hm 3 rfl) (ha_b.rd hm 4 rfl) (ha_l.rd hm 5 rfl) hfw9 hmx9 (by simp [Pl.I64])) fun v w hR => ?_
  obtain ⟨rfl, hE⟩ := hR
  refine ⟨trivial, ?_⟩
  replace hm := hm.ext hE
  refine rw_p rfl rfl (y_as (c := true) (y_eq rfl rfl) (by rw [hyc, hyl]; decide +kernel)) ?_
  refine rw_p rfl rfl (y_pickT rfl rfl) ?_
  refine rw_p rfl rfl (y_move rfl) ?_
  refine rw_p rfl rfl (y_move rfl) ?_
  refine a_call rfl rfl rfl go19 (p_written 3 m_p 2 p_f cap_f p_b cap_b p_l cap_l ys _ (hm.get (k := 2) rfl) (ha_f.rd hm 3 rfl) (ha_b.rd hm 4 rfl) (ha_l.rd hm 5 rfl) hfw9 hmx9 (fun y hy => ⟨(hH y hy).okN hm (by intro e he; simp [he, setB]), hdl y hy⟩) (by simp [Pl.I64]) (by simp [Pl.I64]) (Pl.wsum_bnd (by decide) hfw9 (by rw [hyc]; decide +kernel))) fun v w hR => ?_
  obtain ⟨rfl, hE⟩ := hR
  refine ⟨trivial, ?_⟩
  replace hm := hm.ext hE
  refine rw_p rfl rfl (y_as (c := true) (y_eq rfl rfl) (by rw [hyc]; decide +kernel)) ?_
  refine rw_p rfl rfl (y_pickT rfl rfl) ?_
  refine rw_p rfl rfl (y_assign rfl) ?_
  refine rw_done ?_
  refine gn_sq ?_
  refine HW_ret rfl ?_
  refine toR (fin hret rfl (.tmp rfl .nil) .one ?_)
  exact ⟨rfl, hm.to⟩

end Go.Proofs.Ytpandemmaoeioaa
