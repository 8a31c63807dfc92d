/- Contracts of functions of the program: what each returns. Conditions: the hypotheses of each theorem. -/
import Derived.Test.YtoemhcpmdeinfaaLaw
set_option linter.unusedVariables false
set_option linter.unusedSimpArgs false
namespace Go.Proofs.Ytoemhcpmdeinfaa
open Go Go.Cx

theorem go14 : isGo Try.prog 14 = true := by kernel_rfl
theorem un4 : Try.prog.underlying 4 = some .bool := by kernel_rfl
theorem ag49 : aggS Try.prog 49 = some 3 := by kernel_rfl
theorem fo49_0 : fldO Try.prog 49 0 = some 0 := by kernel_rfl
theorem fo49_1 : fldO Try.prog 49 1 = some 1 := by kernel_rfl
theorem fo49_2 : fldO Try.prog 49 2 = some 2 := by kernel_rfl
theorem sl44 : slcO Try.prog 44 = some (49, 3, 40) := by kernel_rfl
theorem sz49 : szO Try.prog 49 = some 3 := by kernel_rfl
theorem z49 : zer Try.prog 49 = some [.int .i64 0, .int .i64 0, .slice none 0 0] := by kernel_rfl
theorem ar45 : arrO Try.prog 45 = some (2, 5, 1) := by kernel_rfl
theorem go16 : isGo Try.prog 16 = true := by kernel_rfl
theorem go17 : isGo Try.prog 17 = true := by kernel_rfl
theorem go18 : isGo Try.prog 18 = true := by kernel_rfl
theorem go19 : isGo Try.prog 19 = true := by kernel_rfl
theorem go20 : isGo Try.prog 20 = true := by kernel_rfl

set_option maxHeartbeats 400000 in
theorem law_inverse (q : Option Addr) (cq : Nat) (fs : List (Int × Int)) (w0 : World) (hy : Rd w0 q (fs.flatMap encF)) (hok : ∀ f ∈ fs, Pl.okF f) : C Try.prog 4 [.slice q fs.length cq] w0 fun v w' => v = .bool true ∧ Ext No w0 w' := by
  refine C_of Try.func4 rfl rfl rfl fun k hret hnorm => ?_
  have hm := Mem.start w0
  refine HW_seq rfl ?_
  refine HW_text (.pure 0 .done) (by kernel_rfl) ?_
  refine rw_p rfl rfl (y_assign rfl) ?_
  refine rw_done ?_
  refine gn_sq ?_
  refine HW_seq rfl ?_
  refine HW_seq rfl ?_
  refine HW_text (.pure 0 (.pure 1 (.pure 2 .done))) (by kernel_rfl) ?_
  refine rw_p rfl rfl (y_move rfl) ?_
  refine rw_p rfl rfl (y_len rfl rfl sl23) ?_
  refine rw_p rfl rfl (y_gt rfl rfl) ?_
  refine rw_done ?_
  refine gn_sq ?_
  refine HW_cond rfl rfl (fun hc0 => ?_) (fun hc0 => ?_)
  ·
    simp only [Bool.and_eq_true, Bool.or_eq_true, Bool.and_eq_false_iff, Bool.or_eq_false_iff, Bool.not_eq_true', Bool.not_eq_false', decide_eq_true_eq, decide_eq_false_iff_not] at hc0
    refine HW_seq rfl ?_
    refine HW_text (.act 0 (.pure 1 .done)) (by kernel_rfl) ?_
    refine a_call rfl rfl rfl go7 (law_alive _) fun v w hR => ?_
    obtain ⟨rfl, hE⟩ := hR
    refine ⟨trivial, ?_⟩
    replace hm := hm.ext hE
    refine rw_p rfl rfl (y_assign rfl) ?_
    refine rw_done ?_
    refine gn_sq ?_
    refine HW_ret rfl ?_
    refine gr_sq ?_
    refine toR (fin hret rfl (.tmp rfl .nil) .one ?_)
    exact ⟨rfl, hm.to⟩
  ·
    simp only [Bool.and_eq_true, Bool.or_eq_true, Bool.and_eq_false_iff, Bool.or_eq_false_iff, Bool.not_eq_true', Bool.not_eq_false', decide_eq_true_eq, decide_eq_false_iff_not] at hc0
    refine HW_skip rfl ?_
    refine gn_sq ?_
    refine HW_seq rfl ?_
    refine HW_text (.pure 0 (.act 1 (.pure 2 (.pure 3 (.pure 4 (.pure 5 (.pure 6 (.pure 7 (.pure 8 .done))))))))) (by kernel_rfl) ?_
    refine rw_p rfl rfl (y_move rfl) ?_
    refine a_call rfl rfl rfl go8 (law_fields q cq fs _ (hy.ext0 hm.to) hok (by omega)) fun v w hR => ?_
    obtain ⟨p_f, n_f, cap_f, g_f, b_f, p_w, n_w, cap_w, g_w, b_w, ws, rfl, ha_f, ha_w, hws, hmc⟩ := hR
    refine ⟨trivial, ?_⟩
    replace hm := hm.callN hmc
    obtain rfl := ha_w.lenB
    obtain rfl : n_f = fs.length := by have := ha_f.len; rw [fm_length encF_len] at this; omega
    refine rw_p rfl rfl (y_move rfl) ?_
    refine rw_p rfl rfl (y_extract rfl rfl) ?_
    refine rw_p rfl rfl (y_extract rfl rfl) ?_
    refine rw_p rfl rfl (y_extract rfl rfl) ?_
    refine rw_p rfl rfl (y_assign rfl) ?_
    refine rw_p rfl rfl (y_assign rfl) ?_
    refine rw_p rfl rfl (y_assign rfl) ?_
    refine rw_done ?_
    refine gn_sq ?_
    refine HW_seq rfl ?_
    refine HW_text (.pure 0 (.act 1 (.pure 2 (.pure 3 (.pure 4 (.pure 5 (.pure 6 .done))))))) (by kernel_rfl) ?_
    refine rw_p rfl rfl (y_move rfl) ?_
    refine a_call rfl rfl rfl go9 (w_append none 0 [] p_f cap_f fs _ rfl (ha_f.rd hm 1 rfl) (by decide) (by omega) hok) fun v w hR => ?_
    obtain ⟨p_g, n_g, cap_g, g_g, b_g, rfl, ha_g, hmc⟩ := hR
    refine ⟨trivial, ?_⟩
    replace hm := hm.callN hmc
    obtain rfl := ha_g.lenB
    refine rw_p rfl rfl (y_move rfl) ?_
    refine rw_p rfl rfl (y_extract rfl rfl) ?_
    refine rw_p rfl rfl (y_extract rfl rfl) ?_
    refine rw_p rfl rfl (y_assign rfl) ?_
    refine rw_p rfl rfl (y_assign rfl) ?_
    refine rw_done ?_
    refine gn_sq ?_
    refine HW_seq rfl ?_
    refine HW_text (.pure 0 (.act 1 (.pure 2 .done))) (by kernel_rfl) ?_
    refine rw_p rfl rfl (y_move rfl) ?_
    refine a_call rfl rfl rfl go11 (w_new p_g cap_g (Pl.wout [] fs) _ (ha_g.rd hm 0 rfl) (Pl.wout_len (by simp) (by omega))) fun v w hR => ?_
    obtain ⟨r, p_rb, cap_rb, g_rb, b_rb, rfl, ha_rb, hmc⟩ := hR
    refine ⟨trivial, ?_⟩
    replace hm := hm.callN hmc
    refine rw_p rfl rfl (y_assign rfl) ?_
    refine rw_done ?_
    refine gn_sq ?_
    refine HW_seq rfl ?_
    refine HW_seq rfl ?_
    refine HW_text (.pure 0 (.pure 1 (.pure 2 (.pure 3 (.pure 4 (.pure 5 (.pure 6 .done))))))) (by kernel_rfl) ?_
    refine rw_p rfl rfl (y_move rfl) ?_
    refine rw_p rfl rfl (y_pnil rfl rfl pb32) ?_
    refine rw_p rfl rfl (y_move rfl) ?_
    refine rw_p rfl rfl (y_move rfl) ?_
    refine rw_p rfl rfl (y_move rfl) ?_
    refine rw_p rfl rfl (y_bneq rfl rfl un4) ?_
    refine rw_p rfl rfl (y_pickF rfl rfl) ?_
    refine rw_done ?_
    refine gn_sq ?_
    refine HW_condF rfl rfl (by simp) ?_
    refine HW_skip rfl ?_
    refine gn_sq ?_
    refine HW_seq rfl ?_
    refine HW_seq rfl ?_
    refine HW_text (.pure 0 (.pure 1 .done)) (by kernel_rfl) ?_
    refine rw_p rfl rfl (y_move rfl) ?_
    refine rw_p rfl rfl (y_not rfl) ?_
    refine rw_done ?_
    refine gn_sq ?_
    refine HW_cond rfl rfl (fun hc2 => ?_) (fun hc2 => ?_)
    ·
      simp only [Bool.and_eq_true, Bool.or_eq_true, Bool.and_eq_false_iff, Bool.or_eq_false_iff, Bool.not_eq_true', Bool.not_eq_false', decide_eq_true_eq, decide_eq_false_iff_not] at hc2
      refine HW_seq rfl ?_
      refine HW_text (.act 0 (.pure 1 .done)) (by kernel_rfl) ?_
      refine a_call rfl rfl rfl go7 (law_alive _) fun v w hR => ?_
      obtain ⟨rfl, hE⟩ := hR
      refine ⟨trivial, ?_⟩
      replace hm := hm.ext hE
      refine rw_p rfl rfl (y_assign rfl) ?_
      refine rw_done ?_
      refine gn_sq ?_
      refine HW_ret rfl ?_
      refine gr_sq ?_
      refine toR (fin hret rfl (.tmp rfl .nil) .one ?_)
      exact ⟨rfl, hm.to⟩
    ·
      have hA : Pl.fitA fs = true := by simpa using hc2
      have hpl : (Pl.putB fs).length ≤ 8 * fs.length := Pl.putB_len hA
      generalize hB : Pl.wout [] fs = B at *
      obtain rfl : B = Pl.putB fs := by rw [← hB]; unfold Pl.wout; rw [hA]; rfl
      refine HW_skip rfl ?_
      refine gn_sq ?_
      refine HW_seq rfl ?_
      refine HW_seq rfl ?_
      refine HW_text (.pure 0 (.pure 1 (.pure 2 .done))) (by kernel_rfl) ?_
      refine rw_p rfl rfl (y_move rfl) ?_
      refine rw_p rfl rfl (y_len rfl rfl sl25) ?_
      refine rw_p rfl rfl (y_move rfl) ?_
      refine rw_done ?_
      refine gn_sq ?_
      refine HW_block rfl ?_
      refine HW_loopK (ι := Nat) rfl (ks := [6, 8, 38, 39]) (.cons rfl (.cons rfl (.cons rfl (.cons rfl .nil)))) (fun x => [(40, .int .i64 x)]) (fun x w => Mem w0 w No [(r, .row 61 (rdV p_rb (Pl.putB fs).length cap_rb ⟨(Pl.putB (fs.take x)).length, 0, 0⟩)), (g_rb, b_rb), (g_g, b_g), (g_w, b_w), (g_f, b_f)] ∧ x ≤ fs.length) (fun x => fs.length - x) 0 (⟨hm, Nat.zero_le _⟩) ⟨rfl, trivial⟩ (fun x w hM => ?_)
      obtain ⟨hm, hk⟩ := hM
      refine HW_seq rfl ?_
      refine HW_text (.pure 0 .done) (by kernel_rfl) ?_
      refine rw_p rfl rfl (y_lt rfl rfl) ?_
      refine rw_done ?_
      refine gn_sq ?_
      refine HW_seq rfl ?_
      refine HW_cond rfl rfl (fun hc3 => ?_) (fun hc3 => ?_)
      ·
        simp only [decide_eq_true_eq] at hc3
        obtain ⟨f, hi⟩ : ∃ y_, fs[x]? = some y_ := ⟨_, List.getElem?_eq_getElem (by omega)⟩
        obtain ⟨qb, qo, rfl⟩ := (ha_f.rd hm 4 rfl).atI encF_len (by decide) hi
        have hf := hok f (List.mem_of_getElem? hi)
        have hnx := Pl.ruint_put hi hA hf
        have hat : (Pl.putB (fs.take x)).length ≤ (Pl.putB fs).length := by rw [Pl.putB_split hi]; simp
        unfold Pl.okF at hf
        refine HW_skip rfl ?_
        refine gn_sq ?_
        refine HW_seq rfl ?_
        refine HW_block rfl ?_
        refine HW_seq rfl ?_
        refine HW_text (.pure 0 (.pure 1 (.act 2 (.act 3 .done)))) (by kernel_rfl) ?_
        refine rw_p rfl rfl (y_index rfl rfl sl25 rfl (by omega) (by omega)) ?_
        refine rw_p rfl rfl (y_elA rfl ag36 (ha_f.rd hm 4 rfl).nt encF_len hi) ?_
        refine a_alloc rfl rfl z36 hm trivial fun m1 w hg_m1 hm hh => ?_
        refine a_store rfl rfl rfl rfl sz36 rfl hm 0 rfl rfl fun w hm => ?_
        refine rw_done ?_
        refine gn_sq ?_
        refine HW_seq rfl ?_
        refine HW_draw (.pure 0 (.pure 1 (.pure 2 (.pure 4 (.pure 5 (.act 3 (.pure 6 .done))))))) (fun j => j = r) mix (by kernel_rfl) hm fun w hw hm0 hh => ?_
        have hm := hm0
        refine rw_p rfl rfl (y_move rfl) ?_
        refine rw_p rfl rfl (y_fieldAddr rfl fo36_1) ?_
        refine rw_p rfl rfl (y_load rfl sc3 (hm0.nd 0 rfl (hm0.ne 0 1 rfl rfl rfl)) rfl) ?_
        refine rw_p rfl rfl (y_fieldAddr rfl fo36_0) ?_
        refine rw_p rfl rfl (y_load rfl sc34 (hm0.nd 0 rfl (hm0.ne 0 1 rfl rfl rfl)) rfl) ?_
        refine a_call rfl rfl rfl go12 (w_uint r _ p_rb cap_rb (Pl.putB fs) ⟨(Pl.putB (fs.take x)).length, 0, 0⟩ f.2 _ (hm.get (k := 1) rfl) (ha_rb.rd hm 2 rfl) (ha_rb.apart hm 2 1 rfl rfl rfl) ha_rb.le ha_rb.spot hat (by omega) hf.2) fun v w hR => ?_
        obtain ⟨rfl, hmc⟩ := hR
        refine ⟨Ext.trans hh (hmc.to.mono fun _ h => h), ?_⟩
        replace hh := Ext.trans hh (hmc.to.mono fun _ h => h)
        replace hm := hm.callJ 1 rfl hmc
        rw [hnx] at hm
        refine rw_p rfl rfl (y_as (c := false) (y_ne rfl rfl) (by simp [hnx])) ?_
        refine rw_done ?_
        refine gn_sq ?_
        refine HW_condF rfl rfl rfl ?_
        refine HW_skip rfl ?_
        refine gn_bl ?_
        refine gn_sq ?_
        refine HW_text (.pure 0 (.pure 1 .done)) (by kernel_rfl) ?_
        refine rw_p rfl rfl (y_add rfl rfl (i64w (by omega) (by omega))) ?_
        refine rw_p rfl rfl (y_move rfl) ?_
        refine rw_done ?_
        refine next (x + 1) (by omega) ⟨(hm.pick [1, 2, 3, 4, 5] rfl), by omega⟩ ⟨nx x, rfl, rfl, rfl, rfl, trivial⟩
      ·
        simp only [decide_eq_false_iff_not] at hc3
        obtain rfl : x = fs.length := by omega
        rw [List.take_length] at hm
        refine HW_exit rfl ?_
        refine gx_sq (gx_lp ?_)
        refine gx_here ?_
        refine gn_sq ?_
        refine HW_seq rfl ?_
        refine HW_text (.act 0 (.pure 1 (.pure 2 (.act 3 (.pure 4 (.pure 5 (.pure 6 (.pure 7 (.act 8 (.pure 9 (.pure 10 (.pure 11 (.pure 12 (.pure 13 (.pure 14 (.act 15 (.pure 16 (.pure 17 (.pure 18 (.pure 19 .done)))))))))))))))))))) (by kernel_rfl) ?_
        refine a_call rfl rfl rfl go7 (law_alive _) fun v w hR => ?_
        obtain ⟨rfl, hE⟩ := hR
        refine ⟨trivial, ?_⟩
        replace hm := hm.ext hE
        refine rw_p rfl rfl (y_move rfl) ?_
        refine rw_p rfl rfl (y_move rfl) ?_
        refine a_call rfl rfl rfl go13 (w_rest r _ p_rb (Pl.putB fs).length cap_rb ⟨(Pl.putB fs).length, 0, 0⟩ _ (hm.get (k := 0) rfl) (Nat.le_refl _) (by omega)) fun v w hR => ?_
        obtain ⟨rfl, hE⟩ := hR
        refine ⟨trivial, ?_⟩
        replace hm := hm.ext hE
        refine rw_p rfl rfl (y_as (c := true) (y_eq rfl rfl) (by simp)) ?_
        refine rw_p rfl rfl (y_pickT rfl rfl) ?_
        refine rw_p rfl rfl (y_move rfl) ?_
        refine rw_p rfl rfl (y_move rfl) ?_
        refine a_call rfl rfl rfl go14 (w_at r _ p_rb (Pl.putB fs).length cap_rb ⟨(Pl.putB fs).length, 0, 0⟩ _ (hm.get (k := 0) rfl)) fun v w hR => ?_
        obtain ⟨rfl, hE⟩ := hR
        refine ⟨trivial, ?_⟩
        replace hm := hm.ext hE
        refine rw_p rfl rfl (y_move rfl) ?_
        refine rw_p rfl rfl (y_len rfl rfl sl22) ?_
        refine rw_p rfl rfl (y_as (c := true) (y_eq rfl rfl) (by simp)) ?_
        refine rw_p rfl rfl (y_pickT rfl rfl) ?_
        refine rw_p rfl rfl (y_move rfl) ?_
        refine rw_p rfl rfl (y_move rfl) ?_
        refine a_call rfl rfl rfl go15 (w_fault r _ p_rb (Pl.putB fs).length cap_rb ⟨(Pl.putB fs).length, 0, 0⟩ _ (hm.get (k := 0) rfl)) fun v w hR => ?_
        obtain ⟨rfl, hE⟩ := hR
        refine ⟨trivial, ?_⟩
        replace hm := hm.ext hE
        refine rw_p rfl rfl (y_build (cs := [_, _]) z41 ft41 rfl rfl rfl rfl rfl) ?_
        refine rw_p rfl rfl (y_as (c := true) (y_eq2 rfl rfl iii41) (by simp)) ?_
        refine rw_p rfl rfl (y_pickT rfl rfl) ?_
        refine rw_p rfl rfl (y_assign rfl) ?_
        refine rw_done ?_
        refine gn_sq ?_
        refine HW_ret rfl ?_
        refine toR (fin hret rfl (.tmp rfl .nil) .one ?_)
        exact ⟨rfl, hm.to⟩

set_option maxHeartbeats 400000 in
theorem law_few (q : Option Addr) (cq : Nat) (xs : List OpV) (w0 : World) (hx : Rd w0 q (xs.flatMap encO)) (hl : xs.length ≤ 9223372036854775807) : C Try.prog 16 [.slice q xs.length cq] w0 fun v w' => ∃ b, v = .bool b ∧ (b = true → xs.length ≤ 60 ∧ ∀ x ∈ xs, x.d.bs.length ≤ 100) ∧ Ext No w0 w' := by
  refine C_of Try.func16 rfl rfl rfl fun k hret hnorm => ?_
  have hm := Mem.start w0
  refine HW_seq rfl ?_
  refine HW_text (.pure 0 .done) (by kernel_rfl) ?_
  refine rw_p rfl rfl (y_assign rfl) ?_
  refine rw_done ?_
  refine gn_sq ?_
  refine HW_seq rfl ?_
  refine HW_seq rfl ?_
  refine HW_text (.pure 0 (.pure 1 (.pure 2 .done))) (by kernel_rfl) ?_
  refine rw_p rfl rfl (y_move rfl) ?_
  refine rw_p rfl rfl (y_len rfl rfl sl44) ?_
  refine rw_p rfl rfl (y_gt rfl rfl) ?_
  refine rw_done ?_
  refine gn_sq ?_
  refine HW_cond rfl rfl (fun hc0 => ?_) (fun hc0 => ?_)
  ·
    simp only [Bool.and_eq_true, Bool.or_eq_true, Bool.and_eq_false_iff, Bool.or_eq_false_iff, Bool.not_eq_true', Bool.not_eq_false', decide_eq_true_eq, decide_eq_false_iff_not] at hc0
    refine HW_seq rfl ?_
    refine HW_text (.pure 0 .done) (by kernel_rfl) ?_
    refine rw_p rfl rfl (y_assign rfl) ?_
    refine rw_done ?_
    refine gn_sq ?_
    refine HW_ret rfl ?_
    refine gr_sq ?_
    refine toR (fin hret rfl (.tmp rfl .nil) .one ?_)
    exact ⟨false, rfl, nofun, hm.to⟩
  ·
    simp only [Bool.and_eq_true, Bool.or_eq_true, Bool.and_eq_false_iff, Bool.or_eq_false_iff, Bool.not_eq_true', Bool.not_eq_false', decide_eq_true_eq, decide_eq_false_iff_not] at hc0
    refine HW_skip rfl ?_
    refine gn_sq ?_
    refine HW_seq rfl ?_
    refine HW_seq rfl ?_
    refine HW_text (.pure 0 (.pure 1 (.pure 2 .done))) (by kernel_rfl) ?_
    refine rw_p rfl rfl (y_move rfl) ?_
    refine rw_p rfl rfl (y_len rfl rfl sl44) ?_
    refine rw_p rfl rfl (y_move rfl) ?_
    refine rw_done ?_
    refine gn_sq ?_
    refine HW_block rfl ?_
    refine HW_loopK (ι := Nat) rfl (ks := [8, 9]) (.cons rfl (.cons rfl .nil)) (fun k => [(10, .int .i64 k)]) (fun k w => Mem w0 w No [] ∧ k ≤ xs.length ∧ ∀ (j : Nat) y, j < k → xs[j]? = some y → y.d.bs.length ≤ 100) (fun k => xs.length - k) 0 (⟨hm, Nat.zero_le _, fun _ _ h => absurd h (Nat.not_lt_zero _)⟩) ⟨rfl, trivial⟩ (fun k w hM => ?_)
    obtain ⟨hm, hk, hno⟩ := hM
    refine HW_seq rfl ?_
    refine HW_text (.pure 0 .done) (by kernel_rfl) ?_
    refine rw_p rfl rfl (y_lt rfl rfl) ?_
    refine rw_done ?_
    refine gn_sq ?_
    refine HW_seq rfl ?_
    refine HW_cond rfl rfl (fun hc1 => ?_) (fun hc1 => ?_)
    ·
      simp only [decide_eq_true_eq] at hc1
      obtain ⟨x, hi⟩ : ∃ y_, xs[k]? = some y_ := ⟨_, List.getElem?_eq_getElem (by omega)⟩
      obtain ⟨qb, qo, rfl⟩ := hx.atI encO_len (by decide) hi
      refine HW_skip rfl ?_
      refine gn_sq ?_
      refine HW_seq rfl ?_
      refine HW_block rfl ?_
      refine HW_seq rfl ?_
      refine HW_text (.pure 0 (.pure 1 (.act 2 (.act 3 .done)))) (by kernel_rfl) ?_
      refine rw_p rfl rfl (y_index rfl rfl sl44 rfl (by omega) (by omega)) ?_
      refine rw_p rfl rfl (y_elA rfl ag49 (hx.ext0 hm.to).nt encO_len hi) ?_
      refine a_alloc rfl rfl z49 hm trivial fun m1 w hg_m1 hm hh => ?_
      refine a_store rfl rfl rfl rfl sz49 rfl hm 0 rfl rfl fun w hm => ?_
      refine rw_done ?_
      refine gn_sq ?_
      refine HW_seq rfl ?_
      refine HW_text (.pure 0 (.pure 1 (.pure 2 (.pure 3 (.pure 4 (.pure 5 (.pure 6 (.pure 7 (.pure 8 (.pure 9 (.pure 10 (.pure 11 (.pure 12 (.pure 13 (.pure 14 (.pure 15 (.pure 16 (.pure 17 (.pure 18 (.pure 19 (.pure 20 (.pure 21 (.pure 22 (.pure 23 .done)))))))))))))))))))))))) (by kernel_rfl) ?_
      refine rw_p rfl rfl (y_fieldAddr rfl fo49_2) ?_
      refine rw_p rfl rfl (y_load rfl sc22 (hm.nt 0 rfl) rfl) ?_
      refine rw_p rfl rfl (y_len rfl rfl sl22) ?_
      refine rw_p rfl rfl (y_gt rfl rfl) ?_
      refine rw_p rfl rfl (y_move rfl) ?_
      refine rw_g rfl rfl rfl (fun hc => (y_fieldAddr rfl fo49_0)) ?_
      refine rw_g rfl rfl rfl (fun hc => (y_load (gx hc rfl) sc3 (hm.nt 0 rfl) rfl)) ?_
      refine rw_g rfl rfl rfl (fun hc => (y_ge (gx hc rfl) rfl)) ?_
      refine rw_g rfl rfl rfl (fun hc => (y_move (gx hc rfl))) ?_
      refine rw_gg rfl rfl rfl (fun hc => (y_fieldAddr rfl fo49_1)) ?_
      refine rw_gg rfl rfl rfl (fun hc => (y_load (gx hc rfl) sc3 (hm.nt 0 rfl) rfl)) ?_
      refine rw_gg rfl rfl rfl (fun hc => (y_eq (gx hc rfl) rfl)) ?_
      refine rw_g rfl rfl rfl (fun hc => (y_and (gx hc rfl) (gvn hc rfl) rfl)) ?_
      refine rw_p rfl rfl (y_or rfl rfl rfl) ?_
      refine rw_p rfl rfl (y_move rfl) ?_
      refine rw_g rfl rfl rfl (fun hc => (y_fieldAddr rfl fo49_1)) ?_
      refine rw_g rfl rfl rfl (fun hc => (y_load (gx hc rfl) sc3 (hm.nt 0 rfl) rfl)) ?_
      refine rw_g rfl rfl rfl (fun hc => (y_gt (gx hc rfl) rfl)) ?_
      refine rw_p rfl rfl (y_or rfl rfl rfl) ?_
      refine rw_p rfl rfl (y_move rfl) ?_
      refine rw_g rfl rfl rfl (fun hc => (y_fieldAddr rfl fo49_1)) ?_
      refine rw_g rfl rfl rfl (fun hc => (y_load (gx hc rfl) sc3 (hm.nt 0 rfl) rfl)) ?_
      refine rw_g rfl rfl rfl (fun hc => (y_lt (gx hc rfl) rfl)) ?_
      refine rw_p rfl rfl (y_or rfl rfl rfl) ?_
      refine rw_done ?_
      refine gn_sq ?_
      refine HW_cond rfl rfl (fun hc2 => ?_) (fun hc2 => ?_)
      ·
        refine HW_seq rfl ?_
        refine HW_text (.pure 0 .done) (by kernel_rfl) ?_
        refine rw_p rfl rfl (y_assign rfl) ?_
        refine rw_done ?_
        refine gn_sq ?_
        refine HW_ret rfl ?_
        refine gr_bl (gr_sq (gr_lp (gr_bl (gr_sq ?_))))
        refine toR (fin hret rfl (.tmp rfl .nil) .one ?_)
        exact ⟨false, rfl, nofun, hm.to⟩
      ·
        simp only [Bool.or_eq_false_iff, decide_eq_false_iff_not] at hc2
        have hc3 := hc2.1.1.1
        refine HW_skip rfl ?_
        refine gn_bl ?_
        refine gn_sq ?_
        refine HW_text (.pure 0 (.pure 1 .done)) (by kernel_rfl) ?_
        refine rw_p rfl rfl (y_add rfl rfl (i64w (by omega) (by omega))) ?_
        refine rw_p rfl rfl (y_move rfl) ?_
        refine rw_done ?_
        refine next (k + 1) (by omega) ⟨hm.tail, by omega, fun j y hj hy => ?_⟩ ⟨nx k, rfl, rfl, trivial⟩
        rcases Nat.lt_or_ge j k with h | h
        · exact hno j y h hy
        · obtain rfl : j = k := by omega
          rw [hi] at hy; cases hy; omega
    ·
      simp only [decide_eq_false_iff_not] at hc1
      have hk : k = xs.length := by omega
      subst hk
      refine HW_exit rfl ?_
      refine gx_sq (gx_lp ?_)
      refine gx_here ?_
      refine gn_sq ?_
      refine HW_seq rfl ?_
      refine HW_text (.pure 0 .done) (by kernel_rfl) ?_
      refine rw_p rfl rfl (y_assign rfl) ?_
      refine rw_done ?_
      refine gn_sq ?_
      refine HW_ret rfl ?_
      refine toR (fin hret rfl (.tmp rfl .nil) .one ?_)
      exact ⟨true, rfl, fun _ => ⟨by omega, fun x hx => by obtain ⟨j, hj, e⟩ := List.getElem_of_mem hx; exact hno j x hj (by rw [← e]; exact List.getElem?_eq_getElem hj)⟩, hm.to⟩

set_option maxHeartbeats 1600000 in
theorem law_stays (p : Option Addr) (cap : Nat) (bs : List UInt8) (q : Option Addr) (cq : Nat) (xs : List OpV) (a b : UInt8) (w0 : World) (hb : SB.ok w0 ⟨p, cap, bs⟩) (hy : Rd w0 q (xs.flatMap encO)) (hok : ∀ x ∈ xs, okO w0 x) (hlx : xs.length ≤ 9223372036854775807) : C Try.prog 5 [.slice p bs.length cap, .slice q xs.length cq, .agg ⟨[.int .u8 a.toNat, .int .u8 b.toNat]⟩] w0 fun v w' => v = .bool true ∧ Ext No w0 w' := by
  have ha1 := UInt8.toNat_lt a
  have hb1 := UInt8.toNat_lt b
  refine C_of Try.func5 rfl rfl rfl fun k hret hnorm => ?_
  have hm := Mem.start w0
  refine HW_seq rfl ?_
  refine HW_text (.act 0 (.pure 1 .done)) (by kernel_rfl) ?_
  refine a_box rfl rfl rfl rfl hm trivial fun m1 w hg_m1 hm hh => ?_
  refine rw_p rfl rfl (y_assign rfl) ?_
  refine rw_done ?_
  refine gn_sq ?_
  refine HW_seq rfl ?_
  refine HW_seq rfl ?_
  by_cases hbl : bs.length > 1000
  ·
    refine HW_text (.pure 0 (.pure 1 (.pure 2 (.pure 3 (.pure 4 (.act 5 (.pure 6 (.pure 7 .done)))))))) (by kernel_rfl) ?_
    refine rw_p rfl rfl (y_move rfl) ?_
    refine rw_p rfl rfl (y_len rfl rfl sl22) ?_
    refine rw_p rfl rfl (y_as (c := true) (y_gt rfl rfl) (by simp; omega)) ?_
    refine rw_p rfl rfl (y_move rfl) ?_
    refine rw_gf rfl rfl (by decide) rfl ?_
    refine a_gf rfl rfl (by decide) rfl trivial ?_
    refine rw_gf rfl rfl (by decide) rfl ?_
    refine rw_p rfl rfl (y_pickT rfl rfl) ?_
    refine rw_done ?_
    refine gn_sq ?_
    refine HW_condT rfl rfl rfl ?_
    refine HW_seq rfl ?_
    refine HW_text (.act 0 (.pure 1 .done)) (by kernel_rfl) ?_
    refine a_call rfl rfl rfl go7 (law_alive _) fun v w hR => ?_
    obtain ⟨rfl, hE⟩ := hR
    refine ⟨trivial, ?_⟩
    replace hm := hm.ext hE
    refine rw_p rfl rfl (y_assign rfl) ?_
    refine rw_done ?_
    refine gn_sq ?_
    refine HW_ret rfl ?_
    refine gr_sq ?_
    refine toR (fin hret rfl (.tmp rfl .nil) .one ?_)
    exact ⟨rfl, hm.to⟩
  ·
    refine HW_text (.pure 0 (.pure 1 (.pure 2 (.pure 3 (.pure 4 (.act 5 (.pure 6 (.pure 7 .done)))))))) (by kernel_rfl) ?_
    refine rw_p rfl rfl (y_move rfl) ?_
    refine rw_p rfl rfl (y_len rfl rfl sl22) ?_
    refine rw_p rfl rfl (y_as (c := false) (y_gt rfl rfl) (by simp; omega)) ?_
    refine rw_p rfl rfl (y_move rfl) ?_
    refine rw_p rfl rfl (y_move rfl) ?_
    refine a_call rfl rfl rfl go16 (law_few q cq xs _ (hy.ext0 hm.to) hlx) fun v w hR => ?_
    obtain ⟨bo, rfl, hfew, hE⟩ := hR
    refine ⟨trivial, ?_⟩
    replace hm := hm.ext hE
    refine rw_p rfl rfl (y_not rfl) ?_
    refine rw_p rfl rfl (y_pickF rfl rfl) ?_
    refine rw_done ?_
    refine gn_sq ?_
    refine HW_cond rfl rfl (fun hc0 => ?_) (fun hc0 => ?_)
    ·
      simp only [Bool.and_eq_true, Bool.or_eq_true, Bool.and_eq_false_iff, Bool.or_eq_false_iff, Bool.not_eq_true', Bool.not_eq_false', decide_eq_true_eq, decide_eq_false_iff_not] at hc0
      refine HW_seq rfl ?_
      refine HW_text (.act 0 (.pure 1 .done)) (by kernel_rfl) ?_
      refine a_call rfl rfl rfl go7 (law_alive _) fun v w hR => ?_
      obtain ⟨rfl, hE⟩ := hR
      refine ⟨trivial, ?_⟩
      replace hm := hm.ext hE
      refine rw_p rfl rfl (y_assign rfl) ?_
      refine rw_done ?_
      refine gn_sq ?_
      refine HW_ret rfl ?_
      refine gr_sq ?_
      refine toR (fin hret rfl (.tmp rfl .nil) .one ?_)
      exact ⟨rfl, hm.to⟩
    ·
      have hbt : bo = true := by simpa using hc0
      obtain ⟨hxl, hdl⟩ := hfew hbt
      refine HW_skip rfl ?_
      refine gn_sq ?_
      refine HW_seq rfl ?_
      refine HW_text (.pure 0 (.act 1 (.pure 2 .done))) (by kernel_rfl) ?_
      refine rw_p rfl rfl (y_move rfl) ?_
      refine a_call rfl rfl rfl go11 (w_new p cap bs _ (hb.rd.ext0 hm.to) (by omega)) fun v w hR => ?_
      obtain ⟨r, p_rb, cap_rb, g_rb, b_rb, rfl, ha_rb, hmc⟩ := hR
      refine ⟨trivial, ?_⟩
      replace hm := hm.callN hmc
      refine rw_p rfl rfl (y_assign rfl) ?_
      refine rw_done ?_
      refine gn_sq ?_
      refine HW_seq rfl ?_
      refine HW_seq rfl ?_
      refine HW_text (.pure 0 (.pure 1 .done)) (by kernel_rfl) ?_
      refine rw_p rfl rfl (y_move rfl) ?_
      refine rw_p rfl rfl (y_pnil rfl rfl pb32) ?_
      refine rw_done ?_
      refine gn_sq ?_
      refine HW_condF rfl rfl rfl ?_
      refine HW_skip rfl ?_
      refine gn_sq ?_
      refine HW_seq rfl ?_
      refine HW_text (.pure 0 (.act 1 .done)) (by kernel_rfl) ?_
      refine rw_p rfl rfl (y_move rfl) ?_
      refine a_call rfl rfl rfl go12 (w_uint r _ p_rb cap_rb bs ⟨0, 0, 0⟩ 1 _ (hm.get (k := 0) rfl) (ha_rb.rd hm 1 rfl) (ha_rb.apart hm 1 0 rfl rfl rfl) ha_rb.le ha_rb.spot (Nat.zero_le _) (by omega) (by omega)) fun v w hR => ?_
      obtain ⟨rfl, hmc⟩ := hR
      refine ⟨trivial, ?_⟩
      replace hm := hm.callJ 0 rfl hmc
      refine rw_done ?_
      refine gn_sq ?_
      refine HW_seq rfl ?_
      refine HW_text (.pure 0 (.pure 1 (.pure 2 (.pure 3 (.pure 4 (.pure 5 (.pure 6 (.pure 7 (.act 8 .done))))))))) (by kernel_rfl) ?_
      refine rw_p rfl rfl (y_move rfl) ?_
      refine rw_p rfl rfl (y_indexP rfl rfl ar45 (by omega) (by omega)) ?_
      refine rw_p rfl rfl (y_load rfl sc5 (hm.nt 2 rfl) rfl) ?_
      refine rw_p rfl rfl (y_conv rfl is5 it3 (i64w (by omega) (by omega))) ?_
      refine rw_p rfl rfl (y_add rfl rfl (i64w (by omega) (by omega))) ?_
      refine rw_p rfl rfl (y_indexP rfl rfl ar45 (by omega) (by omega)) ?_
      refine rw_p rfl rfl (y_load rfl sc5 (hm.nt 2 rfl) rfl) ?_
      refine rw_p rfl rfl (y_conv rfl is5 it3 (i64w (by omega) (by omega))) ?_
      refine a_call rfl rfl rfl go17 (w_Fail r _ p_rb bs.length cap_rb (Pl.ruint bs ⟨0, 0, 0⟩ 1).1 ((a.toNat : Int) + 1) b.toNat _ (hm.get (k := 0) rfl)) fun v w hR => ?_
      obtain ⟨rfl, hmc⟩ := hR
      refine ⟨trivial, ?_⟩
      replace hm := hm.callJ 0 rfl hmc
      have hsc : ((Pl.ruint bs ⟨0, 0, 0⟩ 1).1.fail ((a.toNat : Int) + 1) b.toNat).code ≠ 0 := Pl.fail_code (by omega)
      have hsa : ((Pl.ruint bs ⟨0, 0, 0⟩ 1).1.fail ((a.toNat : Int) + 1) b.toNat).at_ ≤ bs.length := by rw [Pl.fail_at]; exact Pl.ruint_at (Nat.zero_le _)
      generalize (Pl.ruint bs ⟨0, 0, 0⟩ 1).1.fail ((a.toNat : Int) + 1) b.toNat = s at hm hsc hsa
      refine rw_done ?_
      refine gn_sq ?_
      refine HW_seq rfl ?_
      refine HW_text (.pure 0 (.act 1 (.pure 2 (.act 3 (.act 4 (.act 5 (.pure 6 .done))))))) (by kernel_rfl) ?_
      refine rw_p rfl rfl (y_move rfl) ?_
      refine a_call rfl rfl rfl go15 (w_fault r _ p_rb bs.length cap_rb s _ (hm.get (k := 0) rfl)) fun v w hR => ?_
      obtain ⟨rfl, hE⟩ := hR
      refine ⟨trivial, ?_⟩
      replace hm := hm.ext hE
      refine rw_p rfl rfl (y_move rfl) ?_
      refine a_call rfl rfl rfl go14 (w_at r _ p_rb bs.length cap_rb s _ (hm.get (k := 0) rfl)) fun v w hR => ?_
      obtain ⟨rfl, hE⟩ := hR
      refine ⟨trivial, ?_⟩
      replace hm := hm.ext hE
      refine a_alloc rfl rfl z41 hm trivial fun m2 w hg_m2 hm hh => ?_
      refine a_store rfl rfl rfl rfl sz41 rfl hm 0 rfl rfl fun w hm => ?_
      refine rw_p rfl rfl (y_assign rfl) ?_
      refine rw_done ?_
      refine gn_sq ?_
      refine HW_seq rfl ?_
      refine HW_seq rfl ?_
      refine HW_text (.pure 0 (.pure 1 (.pure 2 .done))) (by kernel_rfl) ?_
      refine rw_p rfl rfl (y_move rfl) ?_
      refine rw_p rfl rfl (y_len rfl rfl sl44) ?_
      refine rw_p rfl rfl (y_move rfl) ?_
      refine rw_done ?_
      refine gn_sq ?_
      refine HW_block rfl ?_
      refine HW_loopK (ι := Nat) rfl (ks := [7, 8, 9, 40, 41]) (.cons rfl (.cons rfl (.cons rfl (.cons rfl (.cons rfl .nil))))) (fun x => [(42, .int .i64 x)]) (fun x w => Mem w0 w No [(m2, .row 41 [.int .i64 s.code, .int .i64 s.fat]), (r, .row 61 (rdV p_rb bs.length cap_rb s)), (g_rb, b_rb), (m1, .row 45 [.int .u8 a.toNat, .int .u8 b.toNat])] ∧ x ≤ xs.length) (fun x => xs.length - x) 0 (⟨(hm.pick [0, 1, 2, 3] rfl), Nat.zero_le _⟩) ⟨rfl, trivial⟩ (fun x w hM => ?_)
      obtain ⟨hm, hk⟩ := hM
      refine HW_seq rfl ?_
      refine HW_text (.pure 0 .done) (by kernel_rfl) ?_
      refine rw_p rfl rfl (y_lt rfl rfl) ?_
      refine rw_done ?_
      refine gn_sq ?_
      refine HW_seq rfl ?_
      refine HW_cond rfl rfl (fun hc2 => ?_) (fun hc2 => ?_)
      ·
        simp only [decide_eq_true_eq] at hc2
        obtain ⟨o, hi⟩ : ∃ y_, xs[x]? = some y_ := ⟨_, List.getElem?_eq_getElem (by omega)⟩
        obtain ⟨qb, qo, rfl⟩ := hy.atI encO_len (by decide) hi
        have ho := hok o (List.mem_of_getElem? hi)
        have hol := hdl o (List.mem_of_getElem? hi)
        unfold okO at ho
        refine HW_skip rfl ?_
        refine gn_sq ?_
        refine HW_seq rfl ?_
        refine HW_block rfl ?_
        refine HW_seq rfl ?_
        refine HW_text (.pure 0 (.pure 1 (.act 2 (.act 3 .done)))) (by kernel_rfl) ?_
        refine rw_p rfl rfl (y_index rfl rfl sl44 rfl (by omega) (by omega)) ?_
        refine rw_p rfl rfl (y_elA rfl ag49 (hy.ext0 hm.to).nt encO_len hi) ?_
        refine a_alloc rfl rfl z49 hm trivial fun m3 w hg_m3 hm hh => ?_
        refine a_store rfl rfl rfl rfl sz49 rfl hm 0 rfl rfl fun w hm => ?_
        refine rw_done ?_
        refine gn_sq ?_
        refine HW_seq rfl ?_
        rcases (by omega : o.k = 0 ∨ o.k = 1 ∨ o.k = 2 ∨ o.k = 3 ∨ (o.k ≠ 0 ∧ o.k ≠ 1 ∧ o.k ≠ 2 ∧ o.k ≠ 3)) with hk0 | hk0 | hk0 | hk0 | hk0
        ·
          refine HW_text (.pure 0 (.pure 1 (.pure 2 (.pure 3 (.pure 4 (.pure 5 (.pure 6 (.act 7 (.pure 8 (.pure 9 (.pure 10 (.pure 11 (.pure 12 (.pure 13 (.pure 14 (.pure 15 (.act 16 (.pure 17 (.pure 18 (.pure 19 (.pure 20 (.pure 21 (.pure 22 (.pure 23 (.pure 24 (.pure 25 (.pure 26 (.pure 27 (.act 28 (.pure 29 (.pure 30 (.pure 31 (.pure 32 (.pure 33 (.pure 34 (.pure 35 (.pure 36 (.pure 37 (.pure 38 (.pure 39 (.pure 40 (.act 41 (.pure 42 (.pure 43 .done)))))))))))))))))))))))))))))))))))))))))))) (by kernel_rfl) ?_
          refine rw_p rfl rfl (y_fieldAddr rfl fo49_0) ?_
          refine rw_p rfl rfl (y_load rfl sc3 (hm.nt 0 rfl) rfl) ?_
          refine rw_p rfl rfl (y_as (c := true) (y_eq rfl rfl) (by simp [hk0])) ?_
          refine rw_p rfl rfl (y_move rfl) ?_
          refine rw_p rfl rfl (y_move rfl) ?_
          refine rw_p rfl rfl (y_fieldAddr rfl fo49_1) ?_
          refine rw_p rfl rfl (y_load rfl sc3 (hm.nt 0 rfl) rfl) ?_
          refine a_call rfl rfl rfl go12 (w_uint r _ p_rb cap_rb bs s o.n _ (hm.get (k := 2) rfl) (ha_rb.rd hm 3 rfl) (ha_rb.apart hm 3 2 rfl rfl rfl) ha_rb.le ha_rb.spot hsa (by omega) ho.2.1) fun v w hR => ?_
          obtain ⟨rfl, hmc⟩ := hR
          refine ⟨trivial, ?_⟩
          replace hm := hm.callJ 2 rfl hmc
          rw [Pl.ruint_bad hsc] at hm
          refine rw_p rfl rfl (y_as (c := false) (y_ne rfl rfl) (by simp [Pl.ruint_bad hsc])) ?_
          refine rw_p rfl rfl (y_pickT rfl rfl) ?_
          refine rw_p rfl rfl (y_move rfl) ?_
          refine rw_p rfl rfl (y_fieldAddr rfl fo49_0) ?_
          refine rw_p rfl rfl (y_load rfl sc3 (hm.nt 0 rfl) rfl) ?_
          refine rw_p rfl rfl (y_as (c := false) (y_eq rfl rfl) (by simp [hk0])) ?_
          refine rw_p rfl rfl (y_move rfl) ?_
          refine rw_gf rfl rfl (by decide) rfl ?_
          refine a_gf rfl rfl (by decide) rfl trivial ?_
          refine rw_gf rfl rfl (by decide) rfl ?_
          refine rw_p rfl rfl (y_pickF rfl rfl) ?_
          refine rw_p rfl rfl (y_pickF rfl rfl) ?_
          refine rw_p rfl rfl (y_move rfl) ?_
          refine rw_p rfl rfl (y_fieldAddr rfl fo49_0) ?_
          refine rw_p rfl rfl (y_load rfl sc3 (hm.nt 0 rfl) rfl) ?_
          refine rw_p rfl rfl (y_as (c := false) (y_eq rfl rfl) (by simp [hk0])) ?_
          refine rw_p rfl rfl (y_move rfl) ?_
          refine rw_gf rfl rfl (by decide) rfl ?_
          refine rw_gf rfl rfl (by decide) rfl ?_
          refine rw_gf rfl rfl (by decide) rfl ?_
          refine a_gf rfl rfl (by decide) rfl trivial ?_
          refine rw_gf rfl rfl (by decide) rfl ?_
          refine rw_gf rfl rfl (by decide) rfl ?_
          refine rw_p rfl rfl (y_pickF rfl rfl) ?_
          refine rw_p rfl rfl (y_pickF rfl rfl) ?_
          refine rw_p rfl rfl (y_move rfl) ?_
          refine rw_p rfl rfl (y_fieldAddr rfl fo49_0) ?_
          refine rw_p rfl rfl (y_load rfl sc3 (hm.nt 0 rfl) rfl) ?_
          refine rw_p rfl rfl (y_as (c := false) (y_eq rfl rfl) (by simp [hk0])) ?_
          refine rw_p rfl rfl (y_move rfl) ?_
          refine rw_gf rfl rfl (by decide) rfl ?_
          refine rw_gf rfl rfl (by decide) rfl ?_
          refine rw_gf rfl rfl (by decide) rfl ?_
          refine a_gf rfl rfl (by decide) rfl trivial ?_
          refine rw_p rfl rfl (y_as (c := false) (y_pickF rfl rfl) (by first | rfl | rw [Pl.rexpect_bad hsc])) ?_
          refine rw_p rfl rfl (y_pickF rfl rfl) ?_
          refine rw_done ?_
          refine gn_sq ?_
          refine HW_condF rfl rfl rfl ?_
          refine HW_skip rfl ?_
          refine gn_bl ?_
          refine gn_sq ?_
          refine HW_text (.pure 0 (.pure 1 .done)) (by kernel_rfl) ?_
          refine rw_p rfl rfl (y_add rfl rfl (i64w (by omega) (by omega))) ?_
          refine rw_p rfl rfl (y_move rfl) ?_
          refine rw_done ?_
          refine next (x + 1) (by omega) ⟨(hm.pick [1, 2, 3, 4] rfl), by omega⟩ ⟨nx x, rfl, rfl, rfl, rfl, rfl, trivial⟩
        ·
          refine HW_text (.pure 0 (.pure 1 (.pure 2 (.pure 3 (.pure 4 (.pure 5 (.pure 6 (.act 7 (.pure 8 (.pure 9 (.pure 10 (.pure 11 (.pure 12 (.pure 13 (.pure 14 (.pure 15 (.act 16 (.pure 17 (.pure 18 (.pure 19 (.pure 20 (.pure 21 (.pure 22 (.pure 23 (.pure 24 (.pure 25 (.pure 26 (.pure 27 (.act 28 (.pure 29 (.pure 30 (.pure 31 (.pure 32 (.pure 33 (.pure 34 (.pure 35 (.pure 36 (.pure 37 (.pure 38 (.pure 39 (.pure 40 (.act 41 (.pure 42 (.pure 43 .done)))))))))))))))))))))))))))))))))))))))))))) (by kernel_rfl) ?_
          refine rw_p rfl rfl (y_fieldAddr rfl fo49_0) ?_
          refine rw_p rfl rfl (y_load rfl sc3 (hm.nt 0 rfl) rfl) ?_
          refine rw_p rfl rfl (y_as (c := false) (y_eq rfl rfl) (by simp [hk0])) ?_
          refine rw_p rfl rfl (y_move rfl) ?_
          refine rw_gf rfl rfl (by decide) rfl ?_
          refine rw_gf rfl rfl (by decide) rfl ?_
          refine rw_gf rfl rfl (by decide) rfl ?_
          refine a_gf rfl rfl (by decide) rfl trivial ?_
          refine rw_gf rfl rfl (by decide) rfl ?_
          refine rw_p rfl rfl (y_pickF rfl rfl) ?_
          refine rw_p rfl rfl (y_move rfl) ?_
          refine rw_p rfl rfl (y_fieldAddr rfl fo49_0) ?_
          refine rw_p rfl rfl (y_load rfl sc3 (hm.nt 0 rfl) rfl) ?_
          refine rw_p rfl rfl (y_as (c := true) (y_eq rfl rfl) (by simp [hk0])) ?_
          refine rw_p rfl rfl (y_move rfl) ?_
          refine rw_p rfl rfl (y_move rfl) ?_
          refine a_call rfl rfl rfl go18 (w_length r _ p_rb cap_rb bs s _ (hm.get (k := 2) rfl) (ha_rb.rd hm 3 rfl) (ha_rb.apart hm 3 2 rfl rfl rfl) ha_rb.le ha_rb.spot hsa (by omega)) fun v w hR => ?_
          obtain ⟨rfl, hmc⟩ := hR
          refine ⟨trivial, ?_⟩
          replace hm := hm.callJ 2 rfl hmc
          rw [Pl.rlength_bad hsc] at hm
          refine rw_p rfl rfl (y_as (c := false) (y_ne rfl rfl) (by simp [Pl.rlength_bad hsc])) ?_
          refine rw_p rfl rfl (y_pickT rfl rfl) ?_
          refine rw_p rfl rfl (y_pickF rfl rfl) ?_
          refine rw_p rfl rfl (y_move rfl) ?_
          refine rw_p rfl rfl (y_fieldAddr rfl fo49_0) ?_
          refine rw_p rfl rfl (y_load rfl sc3 (hm.nt 0 rfl) rfl) ?_
          refine rw_p rfl rfl (y_as (c := false) (y_eq rfl rfl) (by simp [hk0])) ?_
          refine rw_p rfl rfl (y_move rfl) ?_
          refine rw_gf rfl rfl (by decide) rfl ?_
          refine rw_gf rfl rfl (by decide) rfl ?_
          refine rw_gf rfl rfl (by decide) rfl ?_
          refine a_gf rfl rfl (by decide) rfl trivial ?_
          refine rw_gf rfl rfl (by decide) rfl ?_
          refine rw_gf rfl rfl (by decide) rfl ?_
          refine rw_p rfl rfl (y_pickF rfl rfl) ?_
          refine rw_p rfl rfl (y_pickF rfl rfl) ?_
          refine rw_p rfl rfl (y_move rfl) ?_
          refine rw_p rfl rfl (y_fieldAddr rfl fo49_0) ?_
          refine rw_p rfl rfl (y_load rfl sc3 (hm.nt 0 rfl) rfl) ?_
          refine rw_p rfl rfl (y_as (c := false) (y_eq rfl rfl) (by simp [hk0])) ?_
          refine rw_p rfl rfl (y_move rfl) ?_
          refine rw_gf rfl rfl (by decide) rfl ?_
          refine rw_gf rfl rfl (by decide) rfl ?_
          refine rw_gf rfl rfl (by decide) rfl ?_
          refine a_gf rfl rfl (by decide) rfl trivial ?_
          refine rw_p rfl rfl (y_as (c := false) (y_pickF rfl rfl) (by first | rfl | rw [Pl.rexpect_bad hsc])) ?_
          refine rw_p rfl rfl (y_pickF rfl rfl) ?_
          refine rw_done ?_
          refine gn_sq ?_
          refine HW_condF rfl rfl rfl ?_
          refine HW_skip rfl ?_
          refine gn_bl ?_
          refine gn_sq ?_
          refine HW_text (.pure 0 (.pure 1 .done)) (by kernel_rfl) ?_
          refine rw_p rfl rfl (y_add rfl rfl (i64w (by omega) (by omega))) ?_
          refine rw_p rfl rfl (y_move rfl) ?_
          refine rw_done ?_
          refine next (x + 1) (by omega) ⟨(hm.pick [1, 2, 3, 4] rfl), by omega⟩ ⟨nx x, rfl, rfl, rfl, rfl, rfl, trivial⟩
        ·
          refine HW_text (.pure 0 (.pure 1 (.pure 2 (.pure 3 (.pure 4 (.pure 5 (.pure 6 (.act 7 (.pure 8 (.pure 9 (.pure 10 (.pure 11 (.pure 12 (.pure 13 (.pure 14 (.pure 15 (.act 16 (.pure 17 (.pure 18 (.pure 19 (.pure 20 (.pure 21 (.pure 22 (.pure 23 (.pure 24 (.pure 25 (.pure 26 (.pure 27 (.act 28 (.pure 29 (.pure 30 (.pure 31 (.pure 32 (.pure 33 (.pure 34 (.pure 35 (.pure 36 (.pure 37 (.pure 38 (.pure 39 (.pure 40 (.act 41 (.pure 42 (.pure 43 .done)))))))))))))))))))))))))))))))))))))))))))) (by kernel_rfl) ?_
          refine rw_p rfl rfl (y_fieldAddr rfl fo49_0) ?_
          refine rw_p rfl rfl (y_load rfl sc3 (hm.nt 0 rfl) rfl) ?_
          refine rw_p rfl rfl (y_as (c := false) (y_eq rfl rfl) (by simp [hk0])) ?_
          refine rw_p rfl rfl (y_move rfl) ?_
          refine rw_gf rfl rfl (by decide) rfl ?_
          refine rw_gf rfl rfl (by decide) rfl ?_
          refine rw_gf rfl rfl (by decide) rfl ?_
          refine a_gf rfl rfl (by decide) rfl trivial ?_
          refine rw_gf rfl rfl (by decide) rfl ?_
          refine rw_p rfl rfl (y_pickF rfl rfl) ?_
          refine rw_p rfl rfl (y_move rfl) ?_
          refine rw_p rfl rfl (y_fieldAddr rfl fo49_0) ?_
          refine rw_p rfl rfl (y_load rfl sc3 (hm.nt 0 rfl) rfl) ?_
          refine rw_p rfl rfl (y_as (c := false) (y_eq rfl rfl) (by simp [hk0])) ?_
          refine rw_p rfl rfl (y_move rfl) ?_
          refine rw_gf rfl rfl (by decide) rfl ?_
          refine a_gf rfl rfl (by decide) rfl trivial ?_
          refine rw_gf rfl rfl (by decide) rfl ?_
          refine rw_p rfl rfl (y_pickF rfl rfl) ?_
          refine rw_p rfl rfl (y_pickF rfl rfl) ?_
          refine rw_p rfl rfl (y_move rfl) ?_
          refine rw_p rfl rfl (y_fieldAddr rfl fo49_0) ?_
          refine rw_p rfl rfl (y_load rfl sc3 (hm.nt 0 rfl) rfl) ?_
          refine rw_p rfl rfl (y_as (c := true) (y_eq rfl rfl) (by simp [hk0])) ?_
          refine rw_p rfl rfl (y_move rfl) ?_
          refine rw_p rfl rfl (y_move rfl) ?_
          refine rw_p rfl rfl (y_fieldAddr rfl fo49_1) ?_
          refine rw_p rfl rfl (y_load rfl sc3 (hm.nt 0 rfl) rfl) ?_
          refine a_call rfl rfl rfl go19 (w_bytes r _ p_rb cap_rb bs s o.n _ (hm.get (k := 2) rfl) (ha_rb.rd hm 3 rfl) (ha_rb.apart hm 3 2 rfl rfl rfl) ha_rb.le ha_rb.spot hsa (by omega) ho.2.1) fun v w hR => ?_
          obtain ⟨p_y, n_y, cap_y, g_y, b_y, rfl, ha_y, hmc⟩ := hR
          refine ⟨trivial, ?_⟩
          replace hm := hm.callJ 2 rfl hmc
          obtain rfl := ha_y.lenB
          rw [Pl.rbytes_bad hsc] at hm
          refine rw_p rfl rfl (y_len rfl rfl sl22) ?_
          refine rw_p rfl rfl (y_as (c := false) (y_ne rfl rfl) (by simp [Pl.rbytes_bad hsc])) ?_
          refine rw_p rfl rfl (y_pickT rfl rfl) ?_
          refine rw_p rfl rfl (y_pickF rfl rfl) ?_
          refine rw_p rfl rfl (y_move rfl) ?_
          refine rw_p rfl rfl (y_fieldAddr rfl fo49_0) ?_
          refine rw_p rfl rfl (y_load rfl sc3 (hm.nt 1 rfl) rfl) ?_
          refine rw_p rfl rfl (y_as (c := false) (y_eq rfl rfl) (by simp [hk0])) ?_
          refine rw_p rfl rfl (y_move rfl) ?_
          refine rw_gf rfl rfl (by decide) rfl ?_
          refine rw_gf rfl rfl (by decide) rfl ?_
          refine rw_gf rfl rfl (by decide) rfl ?_
          refine a_gf rfl rfl (by decide) rfl trivial ?_
          refine rw_p rfl rfl (y_as (c := false) (y_pickF rfl rfl) (by first | rfl | rw [Pl.rexpect_bad hsc])) ?_
          refine rw_p rfl rfl (y_pickF rfl rfl) ?_
          refine rw_done ?_
          refine gn_sq ?_
          refine HW_condF rfl rfl rfl ?_
          refine HW_skip rfl ?_
          refine gn_bl ?_
          refine gn_sq ?_
          refine HW_text (.pure 0 (.pure 1 .done)) (by kernel_rfl) ?_
          refine rw_p rfl rfl (y_add rfl rfl (i64w (by omega) (by omega))) ?_
          refine rw_p rfl rfl (y_move rfl) ?_
          refine rw_done ?_
          refine next (x + 1) (by omega) ⟨(hm.pick [2, 3, 4, 5] rfl), by omega⟩ ⟨nx x, rfl, rfl, rfl, rfl, rfl, trivial⟩
        ·
          refine HW_text (.pure 0 (.pure 1 (.pure 2 (.pure 3 (.pure 4 (.pure 5 (.pure 6 (.act 7 (.pure 8 (.pure 9 (.pure 10 (.pure 11 (.pure 12 (.pure 13 (.pure 14 (.pure 15 (.act 16 (.pure 17 (.pure 18 (.pure 19 (.pure 20 (.pure 21 (.pure 22 (.pure 23 (.pure 24 (.pure 25 (.pure 26 (.pure 27 (.act 28 (.pure 29 (.pure 30 (.pure 31 (.pure 32 (.pure 33 (.pure 34 (.pure 35 (.pure 36 (.pure 37 (.pure 38 (.pure 39 (.pure 40 (.act 41 (.pure 42 (.pure 43 .done)))))))))))))))))))))))))))))))))))))))))))) (by kernel_rfl) ?_
          refine rw_p rfl rfl (y_fieldAddr rfl fo49_0) ?_
          refine rw_p rfl rfl (y_load rfl sc3 (hm.nt 0 rfl) rfl) ?_
          refine rw_p rfl rfl (y_as (c := false) (y_eq rfl rfl) (by simp [hk0])) ?_
          refine rw_p rfl rfl (y_move rfl) ?_
          refine rw_gf rfl rfl (by decide) rfl ?_
          refine rw_gf rfl rfl (by decide) rfl ?_
          refine rw_gf rfl rfl (by decide) rfl ?_
          refine a_gf rfl rfl (by decide) rfl trivial ?_
          refine rw_gf rfl rfl (by decide) rfl ?_
          refine rw_p rfl rfl (y_pickF rfl rfl) ?_
          refine rw_p rfl rfl (y_move rfl) ?_
          refine rw_p rfl rfl (y_fieldAddr rfl fo49_0) ?_
          refine rw_p rfl rfl (y_load rfl sc3 (hm.nt 0 rfl) rfl) ?_
          refine rw_p rfl rfl (y_as (c := false) (y_eq rfl rfl) (by simp [hk0])) ?_
          refine rw_p rfl rfl (y_move rfl) ?_
          refine rw_gf rfl rfl (by decide) rfl ?_
          refine a_gf rfl rfl (by decide) rfl trivial ?_
          refine rw_gf rfl rfl (by decide) rfl ?_
          refine rw_p rfl rfl (y_pickF rfl rfl) ?_
          refine rw_p rfl rfl (y_pickF rfl rfl) ?_
          refine rw_p rfl rfl (y_move rfl) ?_
          refine rw_p rfl rfl (y_fieldAddr rfl fo49_0) ?_
          refine rw_p rfl rfl (y_load rfl sc3 (hm.nt 0 rfl) rfl) ?_
          refine rw_p rfl rfl (y_as (c := false) (y_eq rfl rfl) (by simp [hk0])) ?_
          refine rw_p rfl rfl (y_move rfl) ?_
          refine rw_gf rfl rfl (by decide) rfl ?_
          refine rw_gf rfl rfl (by decide) rfl ?_
          refine rw_gf rfl rfl (by decide) rfl ?_
          refine a_gf rfl rfl (by decide) rfl trivial ?_
          refine rw_gf rfl rfl (by decide) rfl ?_
          refine rw_gf rfl rfl (by decide) rfl ?_
          refine rw_p rfl rfl (y_pickF rfl rfl) ?_
          refine rw_p rfl rfl (y_pickF rfl rfl) ?_
          refine rw_p rfl rfl (y_move rfl) ?_
          refine rw_p rfl rfl (y_fieldAddr rfl fo49_0) ?_
          refine rw_p rfl rfl (y_load rfl sc3 (hm.nt 0 rfl) rfl) ?_
          refine rw_p rfl rfl (y_as (c := true) (y_eq rfl rfl) (by simp [hk0])) ?_
          refine rw_p rfl rfl (y_move rfl) ?_
          refine rw_p rfl rfl (y_move rfl) ?_
          refine rw_p rfl rfl (y_fieldAddr rfl fo49_2) ?_
          refine rw_p rfl rfl (y_load rfl sc22 (hm.nt 0 rfl) rfl) ?_
          refine a_call rfl rfl rfl go20 (w_expect r _ p_rb cap_rb bs s o.d.p o.d.cap o.d.bs 9 _ (hm.get (k := 2) rfl) (ha_rb.rd hm 3 rfl) (ha_rb.apart hm 3 2 rfl rfl rfl) ha_rb.le ha_rb.spot hsa (by omega) (ho.2.2.rd.ext0 hm.to) (hm.apartR ho.2.2.rd 2 rfl) (by omega) ho.2.2.le ho.2.2.spot) fun v w hR => ?_
          obtain ⟨rfl, hmc⟩ := hR
          refine ⟨trivial, ?_⟩
          replace hm := hm.callJ 2 rfl hmc
          rw [Pl.rexpect_bad hsc] at hm
          refine rw_p rfl rfl (y_as (c := false) (y_pickT rfl rfl) (by first | rfl | rw [Pl.rexpect_bad hsc])) ?_
          refine rw_p rfl rfl (y_pickF rfl rfl) ?_
          refine rw_done ?_
          refine gn_sq ?_
          refine HW_condF rfl rfl rfl ?_
          refine HW_skip rfl ?_
          refine gn_bl ?_
          refine gn_sq ?_
          refine HW_text (.pure 0 (.pure 1 .done)) (by kernel_rfl) ?_
          refine rw_p rfl rfl (y_add rfl rfl (i64w (by omega) (by omega))) ?_
          refine rw_p rfl rfl (y_move rfl) ?_
          refine rw_done ?_
          refine next (x + 1) (by omega) ⟨(hm.pick [1, 2, 3, 4] rfl), by omega⟩ ⟨nx x, rfl, rfl, rfl, rfl, rfl, trivial⟩
        ·
          refine HW_text (.pure 0 (.pure 1 (.pure 2 (.pure 3 (.pure 4 (.pure 5 (.pure 6 (.act 7 (.pure 8 (.pure 9 (.pure 10 (.pure 11 (.pure 12 (.pure 13 (.pure 14 (.pure 15 (.act 16 (.pure 17 (.pure 18 (.pure 19 (.pure 20 (.pure 21 (.pure 22 (.pure 23 (.pure 24 (.pure 25 (.pure 26 (.pure 27 (.act 28 (.pure 29 (.pure 30 (.pure 31 (.pure 32 (.pure 33 (.pure 34 (.pure 35 (.pure 36 (.pure 37 (.pure 38 (.pure 39 (.pure 40 (.act 41 (.pure 42 (.pure 43 .done)))))))))))))))))))))))))))))))))))))))))))) (by kernel_rfl) ?_
          refine rw_p rfl rfl (y_fieldAddr rfl fo49_0) ?_
          refine rw_p rfl rfl (y_load rfl sc3 (hm.nt 0 rfl) rfl) ?_
          refine rw_p rfl rfl (y_as (c := false) (y_eq rfl rfl) (by simp [hk0])) ?_
          refine rw_p rfl rfl (y_move rfl) ?_
          refine rw_gf rfl rfl (by decide) rfl ?_
          refine rw_gf rfl rfl (by decide) rfl ?_
          refine rw_gf rfl rfl (by decide) rfl ?_
          refine a_gf rfl rfl (by decide) rfl trivial ?_
          refine rw_gf rfl rfl (by decide) rfl ?_
          refine rw_p rfl rfl (y_pickF rfl rfl) ?_
          refine rw_p rfl rfl (y_move rfl) ?_
          refine rw_p rfl rfl (y_fieldAddr rfl fo49_0) ?_
          refine rw_p rfl rfl (y_load rfl sc3 (hm.nt 0 rfl) rfl) ?_
          refine rw_p rfl rfl (y_as (c := false) (y_eq rfl rfl) (by simp [hk0])) ?_
          refine rw_p rfl rfl (y_move rfl) ?_
          refine rw_gf rfl rfl (by decide) rfl ?_
          refine a_gf rfl rfl (by decide) rfl trivial ?_
          refine rw_gf rfl rfl (by decide) rfl ?_
          refine rw_p rfl rfl (y_pickF rfl rfl) ?_
          refine rw_p rfl rfl (y_pickF rfl rfl) ?_
          refine rw_p rfl rfl (y_move rfl) ?_
          refine rw_p rfl rfl (y_fieldAddr rfl fo49_0) ?_
          refine rw_p rfl rfl (y_load rfl sc3 (hm.nt 0 rfl) rfl) ?_
          refine rw_p rfl rfl (y_as (c := false) (y_eq rfl rfl) (by simp [hk0])) ?_
          refine rw_p rfl rfl (y_move rfl) ?_
          refine rw_gf rfl rfl (by decide) rfl ?_
          refine rw_gf rfl rfl (by decide) rfl ?_
          refine rw_gf rfl rfl (by decide) rfl ?_
          refine a_gf rfl rfl (by decide) rfl trivial ?_
          refine rw_gf rfl rfl (by decide) rfl ?_
          refine rw_gf rfl rfl (by decide) rfl ?_
          refine rw_p rfl rfl (y_pickF rfl rfl) ?_
          refine rw_p rfl rfl (y_pickF rfl rfl) ?_
          refine rw_p rfl rfl (y_move rfl) ?_
          refine rw_p rfl rfl (y_fieldAddr rfl fo49_0) ?_
          refine rw_p rfl rfl (y_load rfl sc3 (hm.nt 0 rfl) rfl) ?_
          refine rw_p rfl rfl (y_as (c := false) (y_eq rfl rfl) (by simp [hk0])) ?_
          refine rw_p rfl rfl (y_move rfl) ?_
          refine rw_gf rfl rfl (by decide) rfl ?_
          refine rw_gf rfl rfl (by decide) rfl ?_
          refine rw_gf rfl rfl (by decide) rfl ?_
          refine a_gf rfl rfl (by decide) rfl trivial ?_
          refine rw_p rfl rfl (y_as (c := false) (y_pickF rfl rfl) (by first | rfl | rw [Pl.rexpect_bad hsc])) ?_
          refine rw_p rfl rfl (y_pickF rfl rfl) ?_
          refine rw_done ?_
          refine gn_sq ?_
          refine HW_condF rfl rfl rfl ?_
          refine HW_skip rfl ?_
          refine gn_bl ?_
          refine gn_sq ?_
          refine HW_text (.pure 0 (.pure 1 .done)) (by kernel_rfl) ?_
          refine rw_p rfl rfl (y_add rfl rfl (i64w (by omega) (by omega))) ?_
          refine rw_p rfl rfl (y_move rfl) ?_
          refine rw_done ?_
          refine next (x + 1) (by omega) ⟨(hm.pick [1, 2, 3, 4] rfl), by omega⟩ ⟨nx x, rfl, rfl, rfl, rfl, rfl, trivial⟩
      ·
        simp only [decide_eq_false_iff_not] at hc2
        refine HW_exit rfl ?_
        refine gx_sq (gx_lp ?_)
        refine gx_here ?_
        refine gn_sq ?_
        refine HW_seq rfl ?_
        refine HW_draw (.act 0 (.pure 1 (.pure 2 (.pure 4 (.act 3 (.pure 5 (.pure 6 (.pure 7 (.pure 8 (.pure 9 (.pure 10 (.pure 11 (.pure 12 (.pure 13 (.pure 15 (.act 14 (.pure 16 (.pure 17 (.pure 18 .done))))))))))))))))))) No mix (by kernel_rfl) hm fun w hw hm0 hh => ?_
        have hm := hm0
        refine a_call rfl rfl rfl go7 (law_alive _) fun v w hR => ?_
        obtain ⟨rfl, hE⟩ := hR
        refine ⟨hh.ext hE, ?_⟩
        replace hm := hm.ext hE
        replace hh := hh.ext hE
        refine rw_p rfl rfl (y_move rfl) ?_
        refine rw_p rfl rfl (y_move rfl) ?_
        refine rw_p rfl rfl (y_loadA (s := 2) (vs := [_, _]) rfl ag41 (hm0.nd 0 rfl id) rfl) ?_
        refine a_call rfl rfl rfl go15 (w_fault r _ p_rb bs.length cap_rb s _ (hm.get (k := 1) rfl)) fun v w hR => ?_
        obtain ⟨rfl, hE⟩ := hR
        refine ⟨hh.ext hE, ?_⟩
        replace hm := hm.ext hE
        replace hh := hh.ext hE
        refine rw_p rfl rfl (y_as (c := true) (y_eq2 rfl rfl iii41) (by simp)) ?_
        refine rw_p rfl rfl (y_pickT rfl rfl) ?_
        refine rw_p rfl rfl (y_move rfl) ?_
        refine rw_p rfl rfl (y_fieldAddr rfl fo41_0) ?_
        refine rw_p rfl rfl (y_load rfl sc39 (hm0.nd 0 rfl id) rfl) ?_
        refine rw_p rfl rfl (y_as (c := true) (y_ne rfl rfl) (by simpa using hsc)) ?_
        refine rw_p rfl rfl (y_pickT rfl rfl) ?_
        refine rw_p rfl rfl (y_move rfl) ?_
        refine rw_p rfl rfl (y_move rfl) ?_
        refine rw_p rfl rfl (y_move rfl) ?_
        refine a_call rfl rfl rfl go14 (w_at r _ p_rb bs.length cap_rb s _ (hm.get (k := 1) rfl)) fun v w hR => ?_
        obtain ⟨rfl, hE⟩ := hR
        refine ⟨hh.ext hE, ?_⟩
        replace hm := hm.ext hE
        replace hh := hh.ext hE
        refine rw_p rfl rfl (y_as (c := true) (y_eq rfl rfl) (by simp)) ?_
        refine rw_p rfl rfl (y_pickT rfl rfl) ?_
        refine rw_p rfl rfl (y_assign rfl) ?_
        refine rw_done ?_
        refine gn_sq ?_
        refine HW_ret rfl ?_
        refine toR (fin hret rfl (.tmp rfl .nil) .one ?_)
        exact ⟨rfl, hm.to⟩

end Go.Proofs.Ytoemhcpmdeinfaa
