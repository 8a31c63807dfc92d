/- Contracts of functions of the program: what each returns. Conditions: the hypotheses of each theorem. -/
import Derived.Test.YtabilcmhjnpjhaaLaw
set_option linter.unusedVariables false
set_option linter.unusedSimpArgs false
namespace Go.Proofs.Ytabilcmhjnpjhaa
open Go Go.Cx



set_option maxHeartbeats 800000 in
theorem law_divides (c : Pl.Cm) (p : Option Addr) (cap : Nat) (x : Int) (w0 : World) (hb : SB.ok w0 ⟨p, cap, c.bs⟩) (hk : Pl.okCm c) (hz : cap ≤ 140737488355328) (hx : Pl.I64 x) : C Try.prog 5 [.agg ⟨cmV c p c.bs.length cap⟩, .int .i64 x] w0 fun v w' => v = .bool true ∧ Ext No w0 w' := by
  refine C_of Try.func5 rfl rfl rfl fun κ hret hnorm => ?_
  have hm := Mem.start w0
  refine HW_seq rfl ?_
  refine HW_text (.act 0 (.pure 1 .done)) (by kernel_rfl) ?_
  refine a_box rfl rfl rfl rfl hm trivial fun m1 w hg_m1 hm hh => ?_
  refine rw_p rfl rfl (y_assign rfl) ?_
  refine rw_done ?_
  refine gn_sq ?_
  refine HW_seq rfl ?_
  refine HW_seq rfl ?_
  refine HW_text (.pure 0 (.act 1 (.pure 2 .done))) (by kernel_rfl) ?_
  refine rw_p rfl rfl (y_loadA (s := 5) (vs := [_, _, _, _, _]) rfl ag27 (hm.nt 0 rfl) rfl) ?_
  refine a_call rfl rfl rfl go14 (r4_check _ _ _ _ hk (by have := hb.le; have := hb.max; simp only at *; omega)) fun v w hR => ?_
  obtain ⟨rfl, hE⟩ := hR
  refine ⟨trivial, ?_⟩
  replace hm := hm.ext hE
  refine rw_p rfl rfl (y_ne rfl rfl) ?_
  refine rw_done ?_
  refine gn_sq ?_
  refine HW_cond rfl rfl (fun hc0 => ?_) (fun hc0 => ?_)
  ·
    simp only [Bool.and_eq_true, Bool.or_eq_true, Bool.and_eq_false_iff, Bool.or_eq_false_iff, Bool.not_eq_true', Bool.not_eq_false', decide_eq_true_eq, decide_eq_false_iff_not] at hc0
    refine HW_seq rfl ?_
    refine HW_text (.act 0 (.pure 1 .done)) (by kernel_rfl) ?_
    refine a_call rfl rfl rfl go9 (law_alive _) fun v w hR => ?_
    obtain ⟨rfl, hE⟩ := hR
    refine ⟨trivial, ?_⟩
    replace hm := hm.ext hE
    refine rw_p rfl rfl (y_assign rfl) ?_
    refine rw_done ?_
    refine gn_sq ?_
    refine HW_ret rfl ?_
    refine gr_sq ?_
    refine toR (fin hret rfl (.tmp rfl .nil) .one ?_)
    exact ⟨rfl, hm.to⟩
  ·
    have hc : Pl.ccheck c = 0 := by simpa using hc0
    have hck := Pl.ccheck_ok hc
    refine HW_skip rfl ?_
    refine gn_sq ?_
    refine HW_seq rfl ?_
    refine HW_text (.pure 0 (.act 1 (.act 2 (.act 3 .done)))) (by kernel_rfl) ?_
    refine rw_p rfl rfl (y_loadA (s := 5) (vs := [_, _, _, _, _]) rfl ag27 (hm.nt 0 rfl) rfl) ?_
    refine a_call rfl rfl rfl go15 (r4_target _ _ _ _) fun v w hR => ?_
    obtain ⟨rfl, hE⟩ := hR
    refine ⟨trivial, ?_⟩
    replace hm := hm.ext hE
    refine a_alloc rfl rfl z37 hm trivial fun m2 w hg_m2 hm hh => ?_
    refine a_store rfl rfl rfl rfl sz37 rfl hm 0 rfl rfl fun w hm => ?_
    refine rw_done ?_
    refine gn_sq ?_
    refine HW_seq rfl ?_
    refine HW_seq rfl ?_
    refine HW_text (.pure 0 (.pure 1 (.pure 2 (.pure 3 (.pure 4 (.pure 5 (.pure 6 (.pure 7 (.pure 8 (.pure 9 (.pure 10 (.pure 11 (.pure 12 .done))))))))))))) (by kernel_rfl) ?_
    refine rw_p rfl rfl (y_move rfl) ?_
    refine rw_p rfl rfl (y_fieldAddr rfl fo37_0) ?_
    refine rw_p rfl rfl (y_load rfl sc3 (hm.nt 0 rfl) rfl) ?_
    refine rw_p rfl rfl (y_le rfl rfl) ?_
    refine rw_p rfl rfl (y_move rfl) ?_
    refine rw_g rfl rfl rfl (fun hc => (y_move rfl)) ?_
    refine rw_g rfl rfl rfl (fun hc => (y_fieldAddr rfl fo37_0)) ?_
    refine rw_g rfl rfl rfl (fun hc => (y_load (gx hc rfl) sc3 (hm.nt 0 rfl) rfl)) ?_
    refine rw_g rfl rfl rfl (fun hc => (y_fieldAddr rfl fo37_1)) ?_
    refine rw_g rfl rfl rfl (fun hc => (y_load (gx hc rfl) sc3 (hm.nt 0 rfl) rfl)) ?_
    refine rw_g rfl rfl rfl (fun hc => (y_add (gx hc rfl) (gx hc rfl) (i64w (by omega) (by omega)))) ?_
    refine rw_g rfl rfl rfl (fun hc => (y_ge (gx hc rfl) (gx hc rfl))) ?_
    refine rw_p rfl rfl (y_or rfl rfl rfl) ?_
    refine rw_done ?_
    refine gn_sq ?_
    refine HW_cond rfl rfl (fun hc1 => ?_) (fun hc1 => ?_)
    ·
      simp only [Bool.and_eq_true, Bool.or_eq_true, Bool.and_eq_false_iff, Bool.or_eq_false_iff, Bool.not_eq_true', Bool.not_eq_false', decide_eq_true_eq, decide_eq_false_iff_not] at hc1
      refine HW_seq rfl ?_
      refine HW_text (.act 0 (.pure 1 .done)) (by kernel_rfl) ?_
      refine a_call rfl rfl rfl go9 (law_alive _) fun v w hR => ?_
      obtain ⟨rfl, hE⟩ := hR
      refine ⟨trivial, ?_⟩
      replace hm := hm.ext hE
      refine rw_p rfl rfl (y_assign rfl) ?_
      refine rw_done ?_
      refine gn_sq ?_
      refine HW_ret rfl ?_
      refine gr_sq ?_
      refine toR (fin hret rfl (.tmp rfl .nil) .one ?_)
      exact ⟨rfl, hm.to⟩
    ·
      simp only [Bool.or_eq_false_iff, decide_eq_false_iff_not] at hc1
      have hin1 : 0 < x - c.to ∧ c.to ≤ c.to ∧ c.to + (x - c.to) ≤ c.to + Pl.clen c := by omega
      have hin2 : 0 < c.to + Pl.clen c - x ∧ c.to ≤ x ∧ x + (c.to + Pl.clen c - x) ≤ c.to + Pl.clen c := by omega
      have hp1 := Pl.cpart_some hin1
      have hp2 := Pl.cpart_some hin2
      refine HW_skip rfl ?_
      refine gn_sq ?_
      refine HW_seq rfl ?_
      by_cases hk1 : c.k = 1
      ·
        rw [if_pos hk1] at hp1 hp2
        have hd1 : Pl.cpartD c c.to (x - c.to) = ⟨1, c.to, c.fr + (c.to - c.to), x - c.to, []⟩ := by unfold Pl.cpartD; rw [hp1]; rfl
        have hd2 : Pl.cpartD c x (c.to + Pl.clen c - x) = ⟨1, x, c.fr + (x - c.to), c.to + Pl.clen c - x, []⟩ := by unfold Pl.cpartD; rw [hp2]; rfl
        refine HW_text (.pure 0 (.pure 1 (.pure 2 (.pure 3 (.pure 4 (.pure 5 (.pure 6 (.pure 7 (.act 8 (.pure 9 (.pure 10 (.pure 11 (.act 12 (.act 13 (.pure 14 .done))))))))))))))) (by kernel_rfl) ?_
        refine rw_p rfl rfl (y_loadA (s := 5) (vs := [_, _, _, _, _]) rfl ag27 (hm.nt 1 rfl) rfl) ?_
        refine rw_p rfl rfl (y_fieldAddr rfl fo37_0) ?_
        refine rw_p rfl rfl (y_load rfl sc3 (hm.nt 0 rfl) rfl) ?_
        refine rw_p rfl rfl (y_move rfl) ?_
        refine rw_p rfl rfl (y_fieldAddr rfl fo37_0) ?_
        refine rw_p rfl rfl (y_load rfl sc3 (hm.nt 0 rfl) rfl) ?_
        refine rw_p rfl rfl (y_sub rfl rfl (i64w (by omega) (by omega))) ?_
        refine rw_p rfl rfl (y_build (cs := [_, _]) z37 ft37 rfl rfl rfl rfl rfl) ?_
        refine a_call rfl rfl rfl go16 (c_part c p cap c.to (x - c.to) _ hc (hb.rd.ext0 hm.to) hb.le hb.spot (by have := hb.le; simp only at *; omega) (by omega)) fun v w hR => ?_
        obtain ⟨p_s, n_s, cap_s, g_s, b_s, rfl, ha_s, hmc⟩ := hR
        refine ⟨trivial, ?_⟩
        replace hm := hm.callN hmc
        obtain rfl := ha_s.lenB
        generalize hX1 : Pl.cpartD c c.to (x - c.to) = X1 at *
        obtain rfl := hd1
        refine rw_p rfl rfl (y_move rfl) ?_
        refine rw_p rfl rfl (y_extract rfl rfl) ?_
        refine rw_p rfl rfl (y_as (c := true) (y_extract rfl rfl) (by simp [hp1])) ?_
        refine a_alloc rfl rfl z27 hm trivial fun m3 w hg_m3 hm hh => ?_
        refine a_store rfl rfl rfl rfl sz27 rfl hm 0 rfl rfl fun w hm => ?_
        refine rw_p rfl rfl (y_assign rfl) ?_
        refine rw_done ?_
        refine gn_sq ?_
        refine HW_seq rfl ?_
        refine HW_text (.pure 0 (.pure 1 (.pure 2 (.pure 3 (.pure 4 (.pure 5 (.pure 6 (.pure 7 (.pure 8 (.pure 9 (.act 10 (.pure 11 (.pure 12 (.pure 13 (.act 14 (.act 15 (.pure 16 .done))))))))))))))))) (by kernel_rfl) ?_
        refine rw_p rfl rfl (y_loadA (s := 5) (vs := [_, _, _, _, _]) rfl ag27 (hm.nt 3 rfl) rfl) ?_
        refine rw_p rfl rfl (y_move rfl) ?_
        refine rw_p rfl rfl (y_fieldAddr rfl fo37_0) ?_
        refine rw_p rfl rfl (y_load rfl sc3 (hm.nt 2 rfl) rfl) ?_
        refine rw_p rfl rfl (y_fieldAddr rfl fo37_1) ?_
        refine rw_p rfl rfl (y_load rfl sc3 (hm.nt 2 rfl) rfl) ?_
        refine rw_p rfl rfl (y_add rfl rfl (i64w (by omega) (by omega))) ?_
        refine rw_p rfl rfl (y_move rfl) ?_
        refine rw_p rfl rfl (y_sub rfl rfl (i64w (by omega) (by omega))) ?_
        refine rw_p rfl rfl (y_build (cs := [_, _]) z37 ft37 rfl rfl rfl rfl rfl) ?_
        refine a_call rfl rfl rfl go16 (c_part c p cap x (c.to + Pl.clen c - x) _ hc (hb.rd.ext0 hm.to) hb.le hb.spot (by have := hb.le; simp only at *; omega) (by omega)) fun v w hR => ?_
        obtain ⟨p_t, n_t, cap_t, g_t, b_t, rfl, ha_t, hmc⟩ := hR
        refine ⟨trivial, ?_⟩
        replace hm := hm.callN hmc
        obtain rfl := ha_t.lenB
        generalize hX2 : Pl.cpartD c x (c.to + Pl.clen c - x) = X2 at *
        obtain rfl := hd2
        refine rw_p rfl rfl (y_move rfl) ?_
        refine rw_p rfl rfl (y_extract rfl rfl) ?_
        refine rw_p rfl rfl (y_as (c := true) (y_extract rfl rfl) (by simp [hp2])) ?_
        refine a_alloc rfl rfl z27 hm trivial fun m4 w hg_m4 hm hh => ?_
        refine a_store rfl rfl rfl rfl sz27 rfl hm 0 rfl rfl fun w hm => ?_
        refine rw_p rfl rfl (y_assign rfl) ?_
        refine rw_done ?_
        refine gn_sq ?_
        refine HW_seq rfl ?_
        refine HW_seq rfl ?_
        refine HW_text (.pure 0 (.pure 1 (.pure 2 (.pure 3 (.pure 4 (.pure 5 .done)))))) (by kernel_rfl) ?_
        refine rw_p rfl rfl (y_move rfl) ?_
        refine rw_p rfl rfl (y_not rfl) ?_
        refine rw_p rfl rfl (y_move rfl) ?_
        refine rw_p rfl rfl (y_move rfl) ?_
        refine rw_p rfl rfl (y_not rfl) ?_
        refine rw_p rfl rfl (y_pickF rfl rfl) ?_
        refine rw_done ?_
        refine gn_sq ?_
        refine HW_condF rfl rfl rfl ?_
        refine HW_skip rfl ?_
        refine gn_sq ?_
        refine HW_seq rfl ?_
        refine HW_seq rfl ?_
        refine HW_text (.pure 0 (.pure 1 (.pure 2 .done))) (by kernel_rfl) ?_
        refine rw_p rfl rfl (y_fieldAddr rfl fo27_0) ?_
        refine rw_p rfl rfl (y_load rfl sc3 (hm.nt 5 rfl) rfl) ?_
        refine rw_p rfl rfl (y_as (c := true) (y_eq rfl rfl) (by simpa using hk1)) ?_
        refine rw_done ?_
        refine gn_sq ?_
        refine HW_condT rfl rfl rfl ?_
        refine HW_seq rfl ?_
        refine HW_text (.act 0 (.pure 1 (.pure 2 (.pure 3 (.pure 4 (.pure 5 (.pure 6 (.pure 7 (.pure 8 (.pure 9 (.pure 10 (.pure 11 (.pure 12 (.pure 13 (.pure 14 (.pure 15 (.pure 16 (.pure 17 (.pure 18 (.pure 19 (.pure 20 (.pure 21 (.pure 22 (.pure 23 (.pure 24 (.pure 25 (.pure 26 (.pure 27 (.pure 28 .done))))))))))))))))))))))))))))) (by kernel_rfl) ?_
        refine a_call rfl rfl rfl go9 (law_alive _) fun v w hR => ?_
        obtain ⟨rfl, hE⟩ := hR
        refine ⟨trivial, ?_⟩
        replace hm := hm.ext hE
        refine rw_p rfl rfl (y_move rfl) ?_
        refine rw_p rfl rfl (y_fieldAddr rfl fo27_2) ?_
        refine rw_p rfl rfl (y_load rfl sc3 (hm.nt 2 rfl) rfl) ?_
        refine rw_p rfl rfl (y_fieldAddr rfl fo27_2) ?_
        refine rw_p rfl rfl (y_load rfl sc3 (hm.nt 5 rfl) rfl) ?_
        refine rw_p rfl rfl (y_as (c := true) (y_eq rfl rfl) (decide_eq_true (by simp only; omega))) ?_
        refine rw_p rfl rfl (y_pickT rfl rfl) ?_
        refine rw_p rfl rfl (y_move rfl) ?_
        refine rw_p rfl rfl (y_fieldAddr rfl fo27_3) ?_
        refine rw_p rfl rfl (y_load rfl sc3 (hm.nt 2 rfl) rfl) ?_
        refine rw_p rfl rfl (y_fieldAddr rfl fo27_3) ?_
        refine rw_p rfl rfl (y_load rfl sc3 (hm.nt 0 rfl) rfl) ?_
        refine rw_p rfl rfl (y_add rfl rfl (i64w (by simp only; omega) (by simp only; omega))) ?_
        refine rw_p rfl rfl (y_fieldAddr rfl fo27_3) ?_
        refine rw_p rfl rfl (y_load rfl sc3 (hm.nt 5 rfl) rfl) ?_
        refine rw_p rfl rfl (y_as (c := true) (y_eq rfl rfl) (decide_eq_true (by simp only; omega))) ?_
        refine rw_p rfl rfl (y_pickT rfl rfl) ?_
        refine rw_p rfl rfl (y_move rfl) ?_
        refine rw_p rfl rfl (y_fieldAddr rfl fo27_2) ?_
        refine rw_p rfl rfl (y_load rfl sc3 (hm.nt 0 rfl) rfl) ?_
        refine rw_p rfl rfl (y_fieldAddr rfl fo27_2) ?_
        refine rw_p rfl rfl (y_load rfl sc3 (hm.nt 2 rfl) rfl) ?_
        refine rw_p rfl rfl (y_fieldAddr rfl fo27_3) ?_
        refine rw_p rfl rfl (y_load rfl sc3 (hm.nt 2 rfl) rfl) ?_
        refine rw_p rfl rfl (y_add rfl rfl (i64w (by simp only; omega) (by simp only; omega))) ?_
        refine rw_p rfl rfl (y_as (c := true) (y_eq rfl rfl) (decide_eq_true (by simp only; omega))) ?_
        refine rw_p rfl rfl (y_pickT rfl rfl) ?_
        refine rw_p rfl rfl (y_assign rfl) ?_
        refine rw_done ?_
        refine gn_sq ?_
        refine HW_ret rfl ?_
        refine gr_sq ?_
        refine toR (fin hret rfl (.tmp rfl .nil) .one ?_)
        exact ⟨rfl, hm.to⟩
      ·
        rw [if_neg hk1] at hp1 hp2
        have hd1 : Pl.cpartD c c.to (x - c.to) = ⟨2, c.to, 0, 0, (c.bs.drop (c.to - c.to).toNat).take (x - c.to).toNat⟩ := by unfold Pl.cpartD; rw [hp1]; rfl
        have hd2 : Pl.cpartD c x (c.to + Pl.clen c - x) = ⟨2, x, 0, 0, (c.bs.drop (x - c.to).toNat).take (c.to + Pl.clen c - x).toNat⟩ := by unfold Pl.cpartD; rw [hp2]; rfl
        refine HW_text (.pure 0 (.pure 1 (.pure 2 (.pure 3 (.pure 4 (.pure 5 (.pure 6 (.pure 7 (.act 8 (.pure 9 (.pure 10 (.pure 11 (.act 12 (.act 13 (.pure 14 .done))))))))))))))) (by kernel_rfl) ?_
        refine rw_p rfl rfl (y_loadA (s := 5) (vs := [_, _, _, _, _]) rfl ag27 (hm.nt 1 rfl) rfl) ?_
        refine rw_p rfl rfl (y_fieldAddr rfl fo37_0) ?_
        refine rw_p rfl rfl (y_load rfl sc3 (hm.nt 0 rfl) rfl) ?_
        refine rw_p rfl rfl (y_move rfl) ?_
        refine rw_p rfl rfl (y_fieldAddr rfl fo37_0) ?_
        refine rw_p rfl rfl (y_load rfl sc3 (hm.nt 0 rfl) rfl) ?_
        refine rw_p rfl rfl (y_sub rfl rfl (i64w (by omega) (by omega))) ?_
        refine rw_p rfl rfl (y_build (cs := [_, _]) z37 ft37 rfl rfl rfl rfl rfl) ?_
        refine a_call rfl rfl rfl go16 (c_part c p cap c.to (x - c.to) _ hc (hb.rd.ext0 hm.to) hb.le hb.spot (by have := hb.le; simp only at *; omega) (by omega)) fun v w hR => ?_
        obtain ⟨p_s, n_s, cap_s, g_s, b_s, rfl, ha_s, hmc⟩ := hR
        refine ⟨trivial, ?_⟩
        replace hm := hm.callN hmc
        obtain rfl := ha_s.lenB
        generalize hX1 : Pl.cpartD c c.to (x - c.to) = X1 at *
        obtain rfl := hd1
        refine rw_p rfl rfl (y_move rfl) ?_
        refine rw_p rfl rfl (y_extract rfl rfl) ?_
        refine rw_p rfl rfl (y_as (c := true) (y_extract rfl rfl) (by simp [hp1])) ?_
        refine a_alloc rfl rfl z27 hm trivial fun m3 w hg_m3 hm hh => ?_
        refine a_store rfl rfl rfl rfl sz27 rfl hm 0 rfl rfl fun w hm => ?_
        refine rw_p rfl rfl (y_assign rfl) ?_
        refine rw_done ?_
        refine gn_sq ?_
        refine HW_seq rfl ?_
        refine HW_text (.pure 0 (.pure 1 (.pure 2 (.pure 3 (.pure 4 (.pure 5 (.pure 6 (.pure 7 (.pure 8 (.pure 9 (.act 10 (.pure 11 (.pure 12 (.pure 13 (.act 14 (.act 15 (.pure 16 .done))))))))))))))))) (by kernel_rfl) ?_
        refine rw_p rfl rfl (y_loadA (s := 5) (vs := [_, _, _, _, _]) rfl ag27 (hm.nt 3 rfl) rfl) ?_
        refine rw_p rfl rfl (y_move rfl) ?_
        refine rw_p rfl rfl (y_fieldAddr rfl fo37_0) ?_
        refine rw_p rfl rfl (y_load rfl sc3 (hm.nt 2 rfl) rfl) ?_
        refine rw_p rfl rfl (y_fieldAddr rfl fo37_1) ?_
        refine rw_p rfl rfl (y_load rfl sc3 (hm.nt 2 rfl) rfl) ?_
        refine rw_p rfl rfl (y_add rfl rfl (i64w (by omega) (by omega))) ?_
        refine rw_p rfl rfl (y_move rfl) ?_
        refine rw_p rfl rfl (y_sub rfl rfl (i64w (by omega) (by omega))) ?_
        refine rw_p rfl rfl (y_build (cs := [_, _]) z37 ft37 rfl rfl rfl rfl rfl) ?_
        refine a_call rfl rfl rfl go16 (c_part c p cap x (c.to + Pl.clen c - x) _ hc (hb.rd.ext0 hm.to) hb.le hb.spot (by have := hb.le; simp only at *; omega) (by omega)) fun v w hR => ?_
        obtain ⟨p_t, n_t, cap_t, g_t, b_t, rfl, ha_t, hmc⟩ := hR
        refine ⟨trivial, ?_⟩
        replace hm := hm.callN hmc
        obtain rfl := ha_t.lenB
        generalize hX2 : Pl.cpartD c x (c.to + Pl.clen c - x) = X2 at *
        obtain rfl := hd2
        refine rw_p rfl rfl (y_move rfl) ?_
        refine rw_p rfl rfl (y_extract rfl rfl) ?_
        refine rw_p rfl rfl (y_as (c := true) (y_extract rfl rfl) (by simp [hp2])) ?_
        refine a_alloc rfl rfl z27 hm trivial fun m4 w hg_m4 hm hh => ?_
        refine a_store rfl rfl rfl rfl sz27 rfl hm 0 rfl rfl fun w hm => ?_
        refine rw_p rfl rfl (y_assign rfl) ?_
        refine rw_done ?_
        refine gn_sq ?_
        refine HW_seq rfl ?_
        refine HW_seq rfl ?_
        refine HW_text (.pure 0 (.pure 1 (.pure 2 (.pure 3 (.pure 4 (.pure 5 .done)))))) (by kernel_rfl) ?_
        refine rw_p rfl rfl (y_move rfl) ?_
        refine rw_p rfl rfl (y_not rfl) ?_
        refine rw_p rfl rfl (y_move rfl) ?_
        refine rw_p rfl rfl (y_move rfl) ?_
        refine rw_p rfl rfl (y_not rfl) ?_
        refine rw_p rfl rfl (y_pickF rfl rfl) ?_
        refine rw_done ?_
        refine gn_sq ?_
        refine HW_condF rfl rfl rfl ?_
        refine HW_skip rfl ?_
        refine gn_sq ?_
        refine HW_seq rfl ?_
        refine HW_seq rfl ?_
        refine HW_text (.pure 0 (.pure 1 (.pure 2 .done))) (by kernel_rfl) ?_
        refine rw_p rfl rfl (y_fieldAddr rfl fo27_0) ?_
        refine rw_p rfl rfl (y_load rfl sc3 (hm.nt 5 rfl) rfl) ?_
        refine rw_p rfl rfl (y_as (c := false) (y_eq rfl rfl) (by simpa using hk1)) ?_
        refine rw_done ?_
        refine gn_sq ?_
        refine HW_condF rfl rfl rfl ?_
        refine HW_skip rfl ?_
        refine gn_sq ?_
        refine HW_seq rfl ?_
        refine HW_text (.act 0 (.pure 1 (.pure 2 (.pure 3 (.pure 4 (.pure 5 (.pure 6 (.pure 7 (.pure 8 (.pure 9 (.pure 10 (.pure 11 (.pure 12 (.pure 13 (.pure 14 .done))))))))))))))) (by kernel_rfl) ?_
        refine a_call rfl rfl rfl go9 (law_alive _) fun v w hR => ?_
        obtain ⟨rfl, hE⟩ := hR
        refine ⟨trivial, ?_⟩
        replace hm := hm.ext hE
        refine rw_p rfl rfl (y_move rfl) ?_
        refine rw_p rfl rfl (y_fieldAddr rfl fo27_4) ?_
        refine rw_p rfl rfl (y_load rfl sc25 (hm.nt 2 rfl) rfl) ?_
        refine rw_p rfl rfl (y_cvs rfl bt25_9 ((ha_s.rd hm 3 rfl).nt) rfl) ?_
        refine rw_p rfl rfl (y_fieldAddr rfl fo27_4) ?_
        refine rw_p rfl rfl (y_load rfl sc25 (hm.nt 0 rfl) rfl) ?_
        refine rw_p rfl rfl (y_cvs rfl bt25_9 ((ha_t.rd hm 1 rfl).nt) rfl) ?_
        refine rw_p rfl rfl (y_cat rfl rfl (by simp only [List.length_take, List.length_drop]; omega)) ?_
        refine rw_p rfl rfl (y_fieldAddr rfl fo27_4) ?_
        refine rw_p rfl rfl (y_load rfl sc25 (hm.nt 5 rfl) rfl) ?_
        refine rw_p rfl rfl (y_cvs rfl bt25_9 ((hb.rd.ext0 hm.to).nt) rfl) ?_
        refine rw_p rfl rfl (y_as (c := true) (y_seqB rfl rfl) (decide_eq_true (Pl.halves (by omega) (by omega) (by omega)))) ?_
        refine rw_p rfl rfl (y_pickT rfl rfl) ?_
        refine rw_p rfl rfl (y_assign rfl) ?_
        refine rw_done ?_
        refine gn_sq ?_
        refine HW_ret rfl ?_
        refine toR (fin hret rfl (.tmp rfl .nil) .one ?_)
        exact ⟨rfl, hm.to⟩

end Go.Proofs.Ytabilcmhjnpjhaa
