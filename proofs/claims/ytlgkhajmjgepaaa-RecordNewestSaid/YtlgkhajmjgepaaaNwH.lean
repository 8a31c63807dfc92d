/- Contracts of functions of the program: what each returns. Conditions: the hypotheses of each theorem. -/
import Derived.Test.YtlgkhajmjgepaaaNwG
import Derived.Test.YtlgkhajmjgepaaaLaw
set_option linter.unusedVariables false
set_option linter.unusedSimpArgs false
namespace Go.Proofs.Ytlgkhajmjgepaaa
open Go Go.Cx

theorem go12 : isGo Try.prog 12 = true := by kernel_rfl
theorem go18 : isGo Try.prog 18 = true := by kernel_rfl
theorem go19 : isGo Try.prog 19 = true := by kernel_rfl
theorem go9 : isGo Try.prog 9 = true := by kernel_rfl
theorem un4 : Try.prog.underlying 4 = some .bool := by kernel_rfl

set_option maxHeartbeats 1600000 in
theorem law_newest (k : Int) (p : Option Addr) (cap : Nat) (xs : List RcV) (w0 : World) (hx : Rd w0 p (xs.flatMap encR)) (hd : ∀ x ∈ xs, okR w0 x) (hlc : xs.length ≤ cap) (hc : cap ≤ 9223372036854775807) : C Try.prog 7 [.int .u64 k, .slice p xs.length cap] w0 fun v w' => v = .bool true ∧ Ext No w0 w' := by
  refine C_of Try.func7 rfl rfl rfl fun κ hret hnorm => ?_
  have hm := Mem.start w0
  refine HW_seq rfl ?_
  refine HW_text (.pure 0 .done) (by kernel_rfl) ?_
  refine rw_p rfl rfl (y_assign rfl) ?_
  refine rw_done ?_
  refine gn_sq ?_
  refine HW_seq rfl ?_
  refine HW_seq rfl ?_
  refine HW_text (.pure 0 (.pure 1 (.pure 2 .done))) (by kernel_rfl) ?_
  refine rw_p rfl rfl (y_move rfl) ?_
  refine rw_p rfl rfl (y_len rfl rfl sl44) ?_
  refine rw_p rfl rfl (y_gt rfl rfl) ?_
  refine rw_done ?_
  refine gn_sq ?_
  refine HW_cond rfl rfl (fun hc0 => ?_) (fun hc0 => ?_)
  ·
    refine HW_seq rfl ?_
    refine HW_text (.act 0 (.pure 1 .done)) (by kernel_rfl) ?_
    refine a_call rfl rfl rfl go9 (law_alive _) fun v w hR => ?_
    obtain ⟨rfl, hE⟩ := hR
    refine ⟨trivial, ?_⟩
    replace hm := hm.ext hE
    refine rw_p rfl rfl (y_assign rfl) ?_
    refine rw_done ?_
    refine gn_sq ?_
    refine HW_ret rfl ?_
    refine gr_sq ?_
    refine toR (fin hret rfl (.tmp rfl .nil) .one ?_)
    exact ⟨rfl, hm.to⟩
  ·
    simp only [decide_eq_false_iff_not] at hc0
    refine HW_skip rfl ?_
    refine gn_sq ?_
    refine HW_seq rfl ?_
    refine HW_text (.pure 0 .done) (by kernel_rfl) ?_
    refine rw_p rfl rfl (y_assign rfl) ?_
    replace hm := hm.gapIn
    have ha_s := Acc.nil 31 5 none 0
    refine rw_done ?_
    refine gn_sq ?_
    refine HW_seq rfl ?_
    refine HW_seq rfl ?_
    refine HW_text (.pure 0 (.pure 1 (.pure 2 .done))) (by kernel_rfl) ?_
    refine rw_p rfl rfl (y_move rfl) ?_
    refine rw_p rfl rfl (y_len rfl rfl sl44) ?_
    refine rw_p rfl rfl (y_move rfl) ?_
    refine rw_done ?_
    refine gn_sq ?_
    refine HW_block rfl ?_
    refine HW_loopK (ι := Nat × Ow) rfl (ks := [0, 1, 16, 17]) (.cons rfl (.cons rfl (.cons rfl (.cons rfl .nil)))) (fun x => [(18, .int .i64 x.1), (5, .slice x.2.p x.2.n x.2.cap)]) (fun x w => Mem w0 w No [(x.2.g, x.2.b)] ∧ Acc 31 5 x.2.p x.2.n x.2.cap ((xs.take x.1).flatMap encR) x.2.g x.2.b ∧ x.1 ≤ xs.length ∧ x.2.n = x.1 ∧ ∀ y ∈ xs.take x.1, y.d.bs.length ≤ 200) (fun x => xs.length - x.1) (0, ⟨none, 0, 0, 0, .gap⟩) (⟨(hm.pick [0] rfl), ha_s, Nat.zero_le _, rfl, by simp⟩) ⟨rfl, rfl, trivial⟩ (fun x w hM => ?_)
    obtain ⟨hm, ha_s, hk, hn, h200⟩ := hM
    refine HW_seq rfl ?_
    refine HW_text (.pure 0 .done) (by kernel_rfl) ?_
    refine rw_p rfl rfl (y_lt rfl rfl) ?_
    refine rw_done ?_
    refine gn_sq ?_
    refine HW_seq rfl ?_
    refine HW_cond rfl rfl (fun hc1 => ?_) (fun hc1 => ?_)
    ·
      simp only [decide_eq_true_eq] at hc1
      obtain ⟨e, hi⟩ : ∃ y_, xs[x.1]? = some y_ := ⟨_, List.getElem?_eq_getElem (by omega)⟩
      obtain ⟨qb, qo, rfl⟩ := hx.atI encR_len (by decide) hi
      refine HW_skip rfl ?_
      refine gn_sq ?_
      refine HW_seq rfl ?_
      refine HW_block rfl ?_
      refine HW_seq rfl ?_
      refine HW_text (.pure 0 (.pure 1 (.act 2 (.act 3 .done)))) (by kernel_rfl) ?_
      refine rw_p rfl rfl (y_index rfl rfl sl44 rfl (by omega) (by omega)) ?_
      refine rw_p rfl rfl (y_elA rfl ag25 (hx.ext0 hm.to).nt encR_len hi) ?_
      refine a_alloc rfl rfl z25 hm trivial fun m1 w hg_m1 hm hh => ?_
      refine a_store rfl rfl rfl rfl sz25 rfl hm 0 rfl rfl fun w hm => ?_
      refine rw_done ?_
      refine gn_sq ?_
      refine HW_seq rfl ?_
      refine HW_seq rfl ?_
      refine HW_text (.pure 0 (.pure 1 (.pure 2 (.pure 3 .done)))) (by kernel_rfl) ?_
      refine rw_p rfl rfl (y_fieldAddr rfl fo25_4) ?_
      refine rw_p rfl rfl (y_load rfl sc23 (hm.nt 0 rfl) rfl) ?_
      refine rw_p rfl rfl (y_len rfl rfl sl23) ?_
      refine rw_p rfl rfl (y_gt rfl rfl) ?_
      refine rw_done ?_
      refine gn_sq ?_
      refine HW_cond rfl rfl (fun hc2 => ?_) (fun hc2 => ?_)
      ·
        refine HW_seq rfl ?_
        refine HW_text (.act 0 (.pure 1 .done)) (by kernel_rfl) ?_
        refine a_call rfl rfl rfl go9 (law_alive _) fun v w hR => ?_
        obtain ⟨rfl, hE⟩ := hR
        refine ⟨trivial, ?_⟩
        replace hm := hm.ext hE
        refine rw_p rfl rfl (y_assign rfl) ?_
        refine rw_done ?_
        refine gn_sq ?_
        refine HW_ret rfl ?_
        refine gr_sq (gr_bl (gr_sq (gr_lp (gr_bl (gr_sq ?_)))))
        refine toR (fin hret rfl (.tmp rfl .nil) .one ?_)
        exact ⟨rfl, hm.to⟩
      ·
        simp only [decide_eq_false_iff_not] at hc2
        refine HW_skip rfl ?_
        refine gn_sq ?_
        refine HW_text (.pure 0 (.pure 1 (.act 2 (.act 3 (.pure 4 .done))))) (by kernel_rfl) ?_
        refine rw_p rfl rfl (y_move rfl) ?_
        refine rw_p rfl rfl (y_loadA (s := 5) (vs := [_, _, _, _, _]) rfl ag25 (hm.nt 0 rfl) rfl) ?_
        refine a_buildSlice (l := [_, _, _, _, _]) rfl rfl sl45 z31 rfl rfl rfl rfl rfl rfl rfl hm trivial fun m2 w hg_m2 hm hh => ?_
        refine a_append rfl rfl rfl rfl rfl rfl sl45 sl45 z31 rfl rfl (Rd.row0 (hm.get (k := 0) rfl)) rfl ha_s hm 2 rfl (by omega) (by omega) fun p_s cap_s g_s b_s w ha_s hm => ?_
        refine rw_p rfl rfl (y_assign rfl) ?_
        refine rw_done ?_
        refine gn_bl ?_
        refine gn_sq ?_
        refine HW_text (.pure 0 (.pure 1 .done)) (by kernel_rfl) ?_
        refine rw_p rfl rfl (y_add rfl rfl (i64w (by omega) (by omega))) ?_
        refine rw_p rfl rfl (y_move rfl) ?_
        refine rw_done ?_
        refine next (x.1 + 1, ⟨p_s, _, cap_s, g_s, b_s⟩) (by simp only; omega) ⟨(hm.pick [2] rfl), ha_s.to ?_, by simp only; omega, by simp only; omega, ?_⟩ ⟨nx x.1, rfl, rfl, rfl, rfl, rfl, trivial⟩
        · simp only [List.take_add_one, hi, Option.toList, List.flatMap_append, List.flatMap_cons, List.flatMap_nil, List.append_nil]
          rfl
        · intro y hy
          simp only [List.take_add_one, hi, Option.toList] at hy
          rcases List.mem_append.1 hy with h9 | h9
          · exact h200 y h9
          · rw [List.mem_singleton.1 h9]; omega
    ·
      simp only [decide_eq_false_iff_not] at hc1
      have hke : x.1 = xs.length := by omega
      rw [hke, List.take_length] at ha_s h200
      have hn9 : x.2.n = xs.length := by omega
      have hS := new_same k xs
      have hdd : ∀ y ∈ xs, Rd w0 y.d.p (y.d.bs.flatMap encB) ∧ y.d.bs.length ≤ 140737488355328 := fun y hy => ⟨(hd y hy).2.rd, by have := h200 y hy; omega⟩
      obtain ⟨hBd, hBl⟩ := bestR_rd (k := k) hdd
      refine HW_exit rfl ?_
      refine gx_sq (gx_lp ?_)
      refine gx_here ?_
      refine gn_sq ?_
      refine HW_seq rfl ?_
      refine HW_text (.pure 0 (.pure 1 (.act 2 (.pure 3 (.pure 4 (.pure 5 (.act 6 (.act 7 (.pure 8 .done))))))))) (by kernel_rfl) ?_
      refine rw_p rfl rfl (y_move rfl) ?_
      refine rw_p rfl rfl (y_move rfl) ?_
      refine a_call rfl rfl rfl go18 (C.eqv (rec_newest k x.2.p x.2.cap xs _ (ha_s.rd hm 0 rfl) (by omega) (fun y hy => ⟨(hdd y hy).1.ext0 hm.to, (hdd y hy).2⟩)) (by rw [hn9])) fun v w hR => ?_
      obtain ⟨p_z, cap_z, g_z, b_z, rfl, ha_z, hmc⟩ := hR
      refine ⟨trivial, ?_⟩
      have hg_z : b_z.real = true → _ := fun hr => (hmc.fresh _ List.mem_cons_self hr).resolve_left id
      replace hm := hm.callN hmc
      refine rw_p rfl rfl (y_move rfl) ?_
      refine rw_p rfl rfl (y_extract rfl rfl) ?_
      refine rw_p rfl rfl (y_extract rfl rfl) ?_
      refine a_alloc rfl rfl z31 hm trivial fun m1 w hg_m1 hm hh => ?_
      refine a_store rfl rfl rfl rfl sz31 rfl hm 0 rfl rfl fun w hm => ?_
      refine rw_p rfl rfl (y_assign rfl) ?_
      refine rw_done ?_
      refine gn_sq ?_
      refine HW_seq rfl ?_
      refine HW_text (.pure 0 (.pure 1 (.act 2 (.pure 3 (.pure 4 (.pure 5 (.act 6 (.act 7 (.pure 8 .done))))))))) (by kernel_rfl) ?_
      refine rw_p rfl rfl (y_move rfl) ?_
      refine rw_p rfl rfl (y_move rfl) ?_
      refine a_call rfl rfl rfl go19 (r21_newest k p cap xs _ (hx.ext0 hm.to) (by omega)) fun v w hR => ?_
      obtain ⟨rfl, hE⟩ := hR
      refine ⟨trivial, ?_⟩
      replace hm := hm.ext hE
      rw [hS.1, hS.2]
      refine rw_p rfl rfl (y_move rfl) ?_
      refine rw_p rfl rfl (y_extract rfl rfl) ?_
      refine rw_p rfl rfl (y_extract rfl rfl) ?_
      refine a_alloc rfl rfl z25 hm trivial fun m2 w hg_m2 hm hh => ?_
      refine a_store rfl rfl rfl rfl sz25 rfl hm 0 rfl rfl fun w hm => ?_
      refine rw_p rfl rfl (y_assign rfl) ?_
      refine rw_done ?_
      refine gn_sq ?_
      refine HW_seq rfl ?_
      refine HW_text (.act 0 (.pure 1 (.pure 2 (.pure 3 (.pure 4 (.pure 5 (.pure 6 (.pure 7 (.pure 8 (.act 9 (.pure 10 (.pure 11 .done)))))))))))) (by kernel_rfl) ?_
      refine a_call rfl rfl rfl go9 (law_alive _) fun v w hR => ?_
      obtain ⟨rfl, hE⟩ := hR
      refine ⟨trivial, ?_⟩
      replace hm := hm.ext hE
      refine rw_p rfl rfl (y_move rfl) ?_
      refine rw_p rfl rfl (y_move rfl) ?_
      refine rw_p rfl rfl (y_move rfl) ?_
      refine rw_p rfl rfl (y_as (c := true) (y_beql rfl rfl un4) (beq_self_eq_true _)) ?_
      refine rw_p rfl rfl (y_pickT rfl rfl) ?_
      refine rw_p rfl rfl (y_move rfl) ?_
      refine rw_p rfl rfl (y_loadA (s := 5) (vs := [_, _, _, _, _]) rfl ag31 (hm.nt 1 rfl) rfl) ?_
      refine rw_p rfl rfl (y_loadA (s := 5) (vs := [_, _, _, _, _]) rfl ag25 (hm.nt 0 rfl) rfl) ?_
      refine a_call rfl rfl rfl go12 (C.as (v := .bool true) (r21_same (bestR (xs.filter fun x => decide (x.id = k))).rc (bestR (xs.filter fun x => decide (x.id = k))).rc p_z (bestR (xs.filter fun x => decide (x.id = k))).d.p cap_z (bestR (xs.filter fun x => decide (x.id = k))).d.cap _ (ha_z.rd hm 2 rfl) (hBd.ext0 hm.to)) (congrArg Value.bool (Pl.rsame_refl _))) fun v w hR => ?_
      obtain ⟨rfl, hE⟩ := hR
      refine ⟨trivial, ?_⟩
      replace hm := hm.ext hE
      refine rw_p rfl rfl (y_pickT rfl rfl) ?_
      refine rw_p rfl rfl (y_assign rfl) ?_
      refine rw_done ?_
      refine gn_sq ?_
      refine HW_ret rfl ?_
      refine toR (fin hret rfl (.tmp rfl .nil) .one ?_)
      exact ⟨rfl, hm.to⟩

end Go.Proofs.Ytlgkhajmjgepaaa
