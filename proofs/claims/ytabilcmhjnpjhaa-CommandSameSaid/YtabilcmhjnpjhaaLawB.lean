/- Contracts of functions of the program: what each returns. Conditions: the hypotheses of each theorem. -/
import Derived.Test.YtabilcmhjnpjhaaLaw
set_option linter.unusedVariables false
set_option linter.unusedSimpArgs false
namespace Go.Proofs.Ytabilcmhjnpjhaa
open Go Go.Cx

theorem go18 : isGo Try.prog 18 = true := by kernel_rfl
theorem go20 : isGo Try.prog 20 = true := by kernel_rfl
theorem sc5 : scal Try.prog 5 = true := by kernel_rfl
theorem sz5 : szO Try.prog 5 = some 1 := by kernel_rfl

set_option maxHeartbeats 800000 in
theorem law_parts (c : Pl.Cm) (p : Option Addr) (cap : Nat) (a b : Int) (w0 : World) (hb : SB.ok w0 ⟨p, cap, c.bs⟩) (hk : Pl.okCm c) (hz : cap ≤ 140737488355328) (ha : Pl.I64 a) (hb64 : Pl.I64 b) : C Try.prog 6 [.agg ⟨cmV c p c.bs.length cap⟩, .agg #[.int .i64 a, .int .i64 b]] w0 fun v w' => v = .bool true ∧ Ext No w0 w' := by
  refine C_of Try.func6 rfl rfl rfl fun k hret hnorm => ?_
  have hm := Mem.start w0
  refine HW_seq rfl ?_
  refine HW_text (.act 0 (.act 1 (.pure 2 .done))) (by kernel_rfl) ?_
  refine a_box rfl rfl rfl rfl hm trivial fun m1 w hg_m1 hm hh => ?_
  refine a_box rfl rfl rfl rfl hm trivial fun m2 w hg_m2 hm hh => ?_
  refine rw_p rfl rfl (y_assign rfl) ?_
  refine rw_done ?_
  refine gn_sq ?_
  refine HW_seq rfl ?_
  refine HW_seq rfl ?_
  refine HW_text (.pure 0 (.act 1 (.pure 2 (.pure 3 (.pure 4 (.act 5 (.pure 6 (.pure 7 .done)))))))) (by kernel_rfl) ?_
  refine rw_p rfl rfl (y_loadA (s := 5) (vs := [_, _, _, _, _]) rfl ag27 (hm.nt 1 rfl) rfl) ?_
  refine a_call rfl rfl rfl go14 (r4_check _ _ _ _ hk (by have := hb.le; have := hb.max; simp only at *; omega)) fun v w hR => ?_
  obtain ⟨rfl, hE⟩ := hR
  refine ⟨trivial, ?_⟩
  replace hm := hm.ext hE
  refine rw_p rfl rfl (y_ne rfl rfl) ?_
  refine rw_p rfl rfl (y_move rfl) ?_
  refine rw_g rfl rfl rfl (fun hc => (y_loadA (s := 2) (vs := [_, _]) rfl ag37 (hm.nt 0 rfl) rfl)) ?_
  refine a_callG rfl rfl rfl (fun hc => (evs_c (gx hc rfl) evs_n)) go17 (fun hc => (r1_valid _ _ _ (by omega) (by omega))) trivial fun w hE hh => ?_
  replace hm := hm.ext hE
  refine rw_g rfl rfl rfl (fun hc => (y_not (gx hc rfl))) ?_
  refine rw_p rfl rfl (y_or rfl rfl rfl) ?_
  refine rw_done ?_
  refine gn_sq ?_
  refine HW_cond rfl rfl (fun hc0 => ?_) (fun hc0 => ?_)
  ·
    simp only [Bool.and_eq_true, Bool.or_eq_true, Bool.and_eq_false_iff, Bool.or_eq_false_iff, Bool.not_eq_true', Bool.not_eq_false', decide_eq_true_eq, decide_eq_false_iff_not] at hc0
    refine HW_seq rfl ?_
    refine HW_text (.act 0 (.pure 1 .done)) (by kernel_rfl) ?_
    refine a_call rfl rfl rfl go9 (law_alive _) fun v w hR => ?_
    obtain ⟨rfl, hE⟩ := hR
    refine ⟨trivial, ?_⟩
    replace hm := hm.ext hE
    refine rw_p rfl rfl (y_assign rfl) ?_
    refine rw_done ?_
    refine gn_sq ?_
    refine HW_ret rfl ?_
    refine gr_sq ?_
    refine toR (fin hret rfl (.tmp rfl .nil) .one ?_)
    exact ⟨rfl, hm.to⟩
  ·
    simp only [Bool.or_eq_false_iff, Bool.not_eq_false', decide_eq_false_iff_not] at hc0
    have hc : Pl.ccheck c = 0 := by have := hc0.1; simpa using this
    have hck := Pl.ccheck_ok hc
    have hv := Pl.valid_t hc0.2
    refine HW_skip rfl ?_
    refine gn_sq ?_
    refine HW_seq rfl ?_
    refine HW_text (.pure 0 (.pure 1 (.act 2 (.pure 3 (.pure 4 (.pure 5 (.act 6 (.act 7 (.pure 8 .done))))))))) (by kernel_rfl) ?_
    refine rw_p rfl rfl (y_loadA (s := 5) (vs := [_, _, _, _, _]) rfl ag27 (hm.nt 1 rfl) rfl) ?_
    refine rw_p rfl rfl (y_loadA (s := 2) (vs := [_, _]) rfl ag37 (hm.nt 0 rfl) rfl) ?_
    refine a_call rfl rfl rfl go16 (c_part c p cap a b _ hc (hb.rd.ext0 hm.to) hb.le hb.spot (by have := hb.le; simp only at *; omega) (by omega)) fun v w hR => ?_
    obtain ⟨p_s, n_s, cap_s, g_s, b_s, rfl, ha_s, hmc⟩ := hR
    refine ⟨trivial, ?_⟩
    replace hm := hm.callN hmc
    obtain rfl := ha_s.lenB
    refine rw_p rfl rfl (y_move rfl) ?_
    refine rw_p rfl rfl (y_extract rfl rfl) ?_
    refine rw_p rfl rfl (y_extract rfl rfl) ?_
    refine a_alloc rfl rfl z27 hm trivial fun m3 w hg_m3 hm hh => ?_
    refine a_store rfl rfl rfl rfl sz27 rfl hm 0 rfl rfl fun w hm => ?_
    refine rw_p rfl rfl (y_assign rfl) ?_
    refine rw_done ?_
    refine gn_sq ?_
    refine HW_seq rfl ?_
    refine HW_text (.pure 0 (.act 1 (.act 2 (.act 3 .done)))) (by kernel_rfl) ?_
    refine rw_p rfl rfl (y_loadA (s := 5) (vs := [_, _, _, _, _]) rfl ag27 (hm.nt 3 rfl) rfl) ?_
    refine a_call rfl rfl rfl go15 (r4_target _ _ _ _) fun v w hR => ?_
    obtain ⟨rfl, hE⟩ := hR
    refine ⟨trivial, ?_⟩
    replace hm := hm.ext hE
    refine a_alloc rfl rfl z37 hm trivial fun m4 w hg_m4 hm hh => ?_
    refine a_store rfl rfl rfl rfl sz37 rfl hm 0 rfl rfl fun w hm => ?_
    refine rw_done ?_
    refine gn_sq ?_
    refine HW_seq rfl ?_
    refine HW_seq rfl ?_
    by_cases hin : 0 < b ∧ c.to ≤ a ∧ a + b ≤ c.to + Pl.clen c
    ·
      have hp0 := Pl.cpart_some hin
      have hpc := Pl.cpart_check hc hin
      refine HW_text (.pure 0 (.pure 1 (.pure 2 (.pure 3 (.pure 4 (.pure 5 (.pure 6 (.pure 7 (.pure 8 (.pure 9 (.pure 10 (.pure 11 (.pure 12 (.pure 13 (.pure 14 (.pure 15 (.pure 16 (.pure 17 (.pure 18 (.pure 19 (.pure 20 (.pure 21 (.pure 22 .done))))))))))))))))))))))) (by kernel_rfl) ?_
      refine rw_p rfl rfl (y_fieldAddr rfl fo37_1) ?_
      refine rw_p rfl rfl (y_load rfl sc3 (hm.nt 3 rfl) rfl) ?_
      refine rw_p rfl rfl (y_as (c := false) (y_eq rfl rfl) (by simp; omega)) ?_
      refine rw_p rfl rfl (y_move rfl) ?_
      refine rw_p rfl rfl (y_fieldAddr rfl fo37_0) ?_
      refine rw_p rfl rfl (y_load rfl sc3 (hm.nt 3 rfl) rfl) ?_
      refine rw_p rfl rfl (y_fieldAddr rfl fo37_0) ?_
      refine rw_p rfl rfl (y_load rfl sc3 (hm.nt 0 rfl) rfl) ?_
      refine rw_p rfl rfl (y_as (c := false) (y_lt rfl rfl) (by simp; omega)) ?_
      refine rw_p rfl rfl (y_pickF rfl rfl) ?_
      refine rw_p rfl rfl (y_move rfl) ?_
      refine rw_p rfl rfl (y_fieldAddr rfl fo37_0) ?_
      refine rw_p rfl rfl (y_load rfl sc3 (hm.nt 3 rfl) rfl) ?_
      refine rw_p rfl rfl (y_fieldAddr rfl fo37_1) ?_
      refine rw_p rfl rfl (y_load rfl sc3 (hm.nt 3 rfl) rfl) ?_
      refine rw_p rfl rfl (y_add rfl rfl (i64w (by omega) (by omega))) ?_
      refine rw_p rfl rfl (y_fieldAddr rfl fo37_0) ?_
      refine rw_p rfl rfl (y_load rfl sc3 (hm.nt 0 rfl) rfl) ?_
      refine rw_p rfl rfl (y_fieldAddr rfl fo37_1) ?_
      refine rw_p rfl rfl (y_load rfl sc3 (hm.nt 0 rfl) rfl) ?_
      refine rw_p rfl rfl (y_add rfl rfl (i64w (by omega) (by omega))) ?_
      refine rw_p rfl rfl (y_as (c := false) (y_gt rfl rfl) (by simp; omega)) ?_
      refine rw_p rfl rfl (y_pickF rfl rfl) ?_
      refine rw_done ?_
      refine gn_sq ?_
      refine HW_condF rfl rfl rfl ?_
      refine HW_skip rfl ?_
      refine gn_sq ?_
      refine HW_seq rfl ?_
      refine HW_draw (.act 0 (.pure 1 (.pure 2 (.pure 3 (.pure 4 (.pure 5 (.pure 6 (.pure 7 (.act 8 (.act 9 (.pure 10 (.pure 11 (.pure 12 (.act 13 (.pure 14 (.pure 15 (.pure 16 (.pure 17 (.pure 19 (.act 18 (.pure 20 (.pure 21 (.pure 22 .done))))))))))))))))))))))) No mix (by kernel_rfl) hm fun w hw hm0 hh => ?_
      have hm := hm0
      refine a_call rfl rfl rfl go9 (law_alive _) fun v w hR => ?_
      obtain ⟨rfl, hE⟩ := hR
      refine ⟨hh.ext hE, ?_⟩
      replace hm := hm.ext hE
      replace hh := hh.ext hE
      refine rw_p rfl rfl (y_move rfl) ?_
      refine rw_p rfl rfl (y_as (c := true) (y_move rfl) (by simp [hp0])) ?_
      refine rw_p rfl rfl (y_pickT rfl rfl) ?_
      refine rw_p rfl rfl (y_move rfl) ?_
      refine rw_p rfl rfl (y_loadA (s := 5) (vs := [_, _, _, _, _]) rfl ag27 (hm0.nd 1 rfl id) rfl) ?_
      refine rw_p rfl rfl (y_loadA (s := 5) (vs := [_, _, _, _, _]) rfl ag27 (hm0.nd 4 rfl id) rfl) ?_
      refine rw_p rfl rfl (y_loadA (s := 2) (vs := [_, _]) rfl ag37 (hm0.nd 3 rfl id) rfl) ?_
      refine a_call rfl rfl rfl go18 (r4_part c p cap a b _ hc (hb.rd.ext0 hm.to) hb.le hb.spot (by have := hb.le; simp only at *; omega) hin) fun v w hR => ?_
      obtain ⟨p_t, n_t, cap_t, g_t, b_t, rfl, ha_t, hmc⟩ := hR
      refine ⟨hh.ext hmc.to, ?_⟩
      replace hh := hh.ext hmc.to
      replace hm := hm.callN hmc
      obtain rfl := ha_t.lenB
      refine a_call rfl rfl rfl go12 (C.as (v := .bool true) (r4_same (Pl.cpartD c a b) (Pl.cpartD c a b) p_s p_t cap_s cap_t _ (ha_s.rd hm 3 rfl) (ha_t.rd hm 0 rfl)) (congrArg Value.bool (Pl.csame_refl _))) fun v w hR => ?_
      obtain ⟨rfl, hE⟩ := hR
      refine ⟨hh.ext hE, ?_⟩
      replace hm := hm.ext hE
      replace hh := hh.ext hE
      refine rw_p rfl rfl (y_pickT rfl rfl) ?_
      refine rw_p rfl rfl (y_move rfl) ?_
      refine rw_p rfl rfl (y_loadA (s := 5) (vs := [_, _, _, _, _]) rfl ag27 (hm0.nd 1 rfl id) rfl) ?_
      refine a_call rfl rfl rfl go13 (c_check (Pl.cpartD c a b) p_s cap_s _ (Pl.okCm_part hk hc hin) (Pl.len_part hc hin)) fun v w hR => ?_
      obtain ⟨rfl, hE⟩ := hR
      refine ⟨hh.ext hE, ?_⟩
      replace hm := hm.ext hE
      replace hh := hh.ext hE
      refine rw_p rfl rfl (y_as (c := true) (y_eq rfl rfl) (by simp [hpc.1])) ?_
      refine rw_p rfl rfl (y_pickT rfl rfl) ?_
      refine rw_p rfl rfl (y_move rfl) ?_
      refine rw_p rfl rfl (y_loadA (s := 5) (vs := [_, _, _, _, _]) rfl ag27 (hm0.nd 1 rfl id) rfl) ?_
      refine rw_p rfl rfl (y_loadA (s := 2) (vs := [_, _]) rfl ag37 (hm0.nd 3 rfl id) rfl) ?_
      refine a_call rfl rfl rfl go19 (c_target _ _ _ _) fun v w hR => ?_
      obtain ⟨rfl, hE⟩ := hR
      refine ⟨hh.ext hE, ?_⟩
      replace hm := hm.ext hE
      replace hh := hh.ext hE
      refine rw_p rfl rfl (y_as (c := true) (y_eq2 rfl rfl iii37) (by simp [hpc.2.1, hpc.2.2.1])) ?_
      refine rw_p rfl rfl (y_pickT rfl rfl) ?_
      refine rw_p rfl rfl (y_assign rfl) ?_
      refine rw_done ?_
      refine gn_sq ?_
      refine HW_ret rfl ?_
      refine toR (fin hret rfl (.tmp rfl .nil) .one ?_)
      exact ⟨rfl, hm.to⟩
    ·
      have hp0 := Pl.cpart_none hin
      have hpd : Pl.cpartD c a b = Pl.cm0 := by unfold Pl.cpartD; rw [hp0]; rfl
      refine HW_text (.pure 0 (.pure 1 (.pure 2 (.pure 3 (.pure 4 (.pure 5 (.pure 6 (.pure 7 (.pure 8 (.pure 9 (.pure 10 (.pure 11 (.pure 12 (.pure 13 (.pure 14 (.pure 15 (.pure 16 (.pure 17 (.pure 18 (.pure 19 (.pure 20 (.pure 21 (.pure 22 .done))))))))))))))))))))))) (by kernel_rfl) ?_
      refine rw_p rfl rfl (y_fieldAddr rfl fo37_1) ?_
      refine rw_p rfl rfl (y_load rfl sc3 (hm.nt 3 rfl) rfl) ?_
      refine rw_p rfl rfl (y_eq rfl rfl) ?_
      refine rw_p rfl rfl (y_move rfl) ?_
      refine rw_g rfl rfl rfl (fun hc => (y_fieldAddr rfl fo37_0)) ?_
      refine rw_g rfl rfl rfl (fun hc => (y_load (gx hc rfl) sc3 (hm.nt 3 rfl) rfl)) ?_
      refine rw_g rfl rfl rfl (fun hc => (y_fieldAddr rfl fo37_0)) ?_
      refine rw_g rfl rfl rfl (fun hc => (y_load (gx hc rfl) sc3 (hm.nt 0 rfl) rfl)) ?_
      refine rw_g rfl rfl rfl (fun hc => (y_lt (gx hc rfl) (gx hc rfl))) ?_
      refine rw_p rfl rfl (y_or rfl rfl rfl) ?_
      refine rw_p rfl rfl (y_move rfl) ?_
      refine rw_g rfl rfl rfl (fun hc => (y_fieldAddr rfl fo37_0)) ?_
      refine rw_g rfl rfl rfl (fun hc => (y_load (gx hc rfl) sc3 (hm.nt 3 rfl) rfl)) ?_
      refine rw_g rfl rfl rfl (fun hc => (y_fieldAddr rfl fo37_1)) ?_
      refine rw_g rfl rfl rfl (fun hc => (y_load (gx hc rfl) sc3 (hm.nt 3 rfl) rfl)) ?_
      refine rw_g rfl rfl rfl (fun hc => (y_add (gx hc rfl) (gx hc rfl) (i64w (by omega) (by omega)))) ?_
      refine rw_g rfl rfl rfl (fun hc => (y_fieldAddr rfl fo37_0)) ?_
      refine rw_g rfl rfl rfl (fun hc => (y_load (gx hc rfl) sc3 (hm.nt 0 rfl) rfl)) ?_
      refine rw_g rfl rfl rfl (fun hc => (y_fieldAddr rfl fo37_1)) ?_
      refine rw_g rfl rfl rfl (fun hc => (y_load (gx hc rfl) sc3 (hm.nt 0 rfl) rfl)) ?_
      refine rw_g rfl rfl rfl (fun hc => (y_add (gx hc rfl) (gx hc rfl) (i64w (by omega) (by omega)))) ?_
      refine rw_g rfl rfl rfl (fun hc => (y_gt (gx hc rfl) (gx hc rfl))) ?_
      refine rw_p rfl rfl (y_or rfl rfl rfl) ?_
      refine rw_done ?_
      refine gn_sq ?_
      refine HW_condT rfl rfl (by simp only [Bool.or_eq_true, decide_eq_true_eq]; omega) ?_
      refine HW_seq rfl ?_
      refine HW_text (.act 0 (.pure 1 (.pure 2 (.pure 3 (.pure 4 (.pure 5 (.pure 6 (.pure 7 (.act 8 (.pure 9 (.pure 10 .done))))))))))) (by kernel_rfl) ?_
      refine a_call rfl rfl rfl go9 (law_alive _) fun v w hR => ?_
      obtain ⟨rfl, hE⟩ := hR
      refine ⟨trivial, ?_⟩
      replace hm := hm.ext hE
      refine rw_p rfl rfl (y_move rfl) ?_
      refine rw_p rfl rfl (y_move rfl) ?_
      refine rw_p rfl rfl (y_as (c := true) (y_not rfl) (by simp [hp0])) ?_
      refine rw_p rfl rfl (y_pickT rfl rfl) ?_
      refine rw_p rfl rfl (y_move rfl) ?_
      refine rw_p rfl rfl (y_loadA (s := 5) (vs := [_, _, _, _, _]) rfl ag27 (hm.nt 1 rfl) rfl) ?_
      refine rw_p rfl rfl (y_build (cs := [_, _, _, _, _]) z27 ft27 rfl rfl rfl rfl rfl) ?_
      refine a_call rfl rfl rfl go12 (C.as (v := .bool true) (r4_same (Pl.cpartD c a b) ⟨0, 0, 0, 0, []⟩ p_s none cap_s 0 _ (ha_s.rd hm 2 rfl) rfl) (congrArg Value.bool (by rw [hpd]; rfl))) fun v w hR => ?_
      obtain ⟨rfl, hE⟩ := hR
      refine ⟨trivial, ?_⟩
      replace hm := hm.ext hE
      refine rw_p rfl rfl (y_pickT rfl rfl) ?_
      refine rw_p rfl rfl (y_assign rfl) ?_
      refine rw_done ?_
      refine gn_sq ?_
      refine HW_ret rfl ?_
      refine gr_sq ?_
      refine toR (fin hret rfl (.tmp rfl .nil) .one ?_)
      exact ⟨rfl, hm.to⟩

set_option maxHeartbeats 800000 in
theorem law_same (a b : Pl.Cm) (p q : Option Addr) (c1 c2 : Nat) (w0 : World) (hb : SB.ok w0 ⟨p, c1, a.bs⟩) (hq : SB.ok w0 ⟨q, c2, b.bs⟩) : C Try.prog 7 [.agg ⟨cmV a p a.bs.length c1⟩, .agg ⟨cmV b q b.bs.length c2⟩] w0 fun v w' => v = .bool true ∧ Ext No w0 w' := by
  refine C_of Try.func7 rfl rfl rfl fun k hret hnorm => ?_
  have hm := Mem.start w0
  refine HW_seq rfl ?_
  refine HW_text (.act 0 (.act 1 (.pure 2 .done))) (by kernel_rfl) ?_
  refine a_box rfl rfl rfl rfl hm trivial fun m1 w hg_m1 hm hh => ?_
  refine a_box rfl rfl rfl rfl hm trivial fun m2 w hg_m2 hm hh => ?_
  refine rw_p rfl rfl (y_assign rfl) ?_
  refine rw_done ?_
  refine gn_sq ?_
  refine HW_seq rfl ?_
  refine HW_seq rfl ?_
  refine HW_text (.pure 0 (.pure 1 (.pure 2 (.pure 3 (.pure 4 (.pure 5 (.pure 6 (.pure 7 (.pure 8 (.pure 9 .done)))))))))) (by kernel_rfl) ?_
  refine rw_p rfl rfl (y_fieldAddr rfl fo27_4) ?_
  refine rw_p rfl rfl (y_load rfl sc25 (hm.nt 1 rfl) rfl) ?_
  refine rw_p rfl rfl (y_len rfl rfl sl25) ?_
  refine rw_p rfl rfl (y_gt rfl rfl) ?_
  refine rw_p rfl rfl (y_move rfl) ?_
  refine rw_g rfl rfl rfl (fun hc => (y_fieldAddr rfl fo27_4)) ?_
  refine rw_g rfl rfl rfl (fun hc => (y_load (gx hc rfl) sc25 (hm.nt 0 rfl) rfl)) ?_
  refine rw_g rfl rfl rfl (fun hc => (y_len (gx hc rfl) rfl sl25)) ?_
  refine rw_g rfl rfl rfl (fun hc => (y_gt (gx hc rfl) rfl)) ?_
  refine rw_p rfl rfl (y_or rfl rfl rfl) ?_
  refine rw_done ?_
  refine gn_sq ?_
  refine HW_cond rfl rfl (fun hc0 => ?_) (fun hc0 => ?_)
  ·
    simp only [Bool.and_eq_true, Bool.or_eq_true, Bool.and_eq_false_iff, Bool.or_eq_false_iff, Bool.not_eq_true', Bool.not_eq_false', decide_eq_true_eq, decide_eq_false_iff_not] at hc0
    refine HW_seq rfl ?_
    refine HW_text (.act 0 (.pure 1 .done)) (by kernel_rfl) ?_
    refine a_call rfl rfl rfl go9 (law_alive _) fun v w hR => ?_
    obtain ⟨rfl, hE⟩ := hR
    refine ⟨trivial, ?_⟩
    replace hm := hm.ext hE
    refine rw_p rfl rfl (y_assign rfl) ?_
    refine rw_done ?_
    refine gn_sq ?_
    refine HW_ret rfl ?_
    refine gr_sq ?_
    refine toR (fin hret rfl (.tmp rfl .nil) .one ?_)
    exact ⟨rfl, hm.to⟩
  ·
    simp only [Bool.and_eq_true, Bool.or_eq_true, Bool.and_eq_false_iff, Bool.or_eq_false_iff, Bool.not_eq_true', Bool.not_eq_false', decide_eq_true_eq, decide_eq_false_iff_not] at hc0
    refine HW_skip rfl ?_
    refine gn_sq ?_
    refine HW_seq rfl ?_
    refine HW_text (.pure 0 (.act 1 (.act 2 (.act 3 .done)))) (by kernel_rfl) ?_
    refine rw_p rfl rfl (y_loadA (s := 5) (vs := [_, _, _, _, _]) rfl ag27 (hm.nt 1 rfl) rfl) ?_
    refine a_call rfl rfl rfl go20 (c_clone a p c1 _ (hb.rd.ext0 hm.to) (by omega)) fun v w hR => ?_
    obtain ⟨p_s, n_s, cap_s, g_s, b_s, rfl, ha_s, hmc⟩ := hR
    refine ⟨trivial, ?_⟩
    replace hm := hm.callN hmc
    obtain rfl := ha_s.lenB
    refine a_alloc rfl rfl z27 hm trivial fun m3 w hg_m3 hm hh => ?_
    refine a_store rfl rfl rfl rfl sz27 rfl hm 0 rfl rfl fun w hm => ?_
    refine rw_done ?_
    refine gn_sq ?_
    refine HW_seq rfl ?_
    refine HW_seq rfl ?_
    refine HW_draw (.pure 0 (.pure 1 (.pure 3 (.pure 4 (.act 2 (.act 5 (.pure 6 (.pure 7 (.pure 8 (.pure 9 (.act 10 (.pure 11 (.pure 12 .done))))))))))))) No mix (by kernel_rfl) hm fun w hw hm0 hh => ?_
    have hm := hm0
    refine rw_p rfl rfl (y_loadA (s := 5) (vs := [_, _, _, _, _]) rfl ag27 (hm0.nd 3 rfl id) rfl) ?_
    refine rw_p rfl rfl (y_loadA (s := 5) (vs := [_, _, _, _, _]) rfl ag27 (hm0.nd 2 rfl id) rfl) ?_
    refine rw_p rfl rfl (y_loadA (s := 5) (vs := [_, _, _, _, _]) rfl ag27 (hm0.nd 3 rfl id) rfl) ?_
    refine rw_p rfl rfl (y_loadA (s := 5) (vs := [_, _, _, _, _]) rfl ag27 (hm0.nd 2 rfl id) rfl) ?_
    refine a_call rfl rfl rfl go21 (c_same a b p q c1 c2 _ (hb.rd.ext0 hm.to) (hq.rd.ext0 hm.to)) fun v w hR => ?_
    obtain ⟨rfl, hE⟩ := hR
    refine ⟨hh.ext hE, ?_⟩
    replace hm := hm.ext hE
    replace hh := hh.ext hE
    refine a_call rfl rfl rfl go12 (r4_same a b p q c1 c2 _ (hb.rd.ext0 hm.to) (hq.rd.ext0 hm.to)) fun v w hR => ?_
    obtain ⟨rfl, hE⟩ := hR
    refine ⟨hh.ext hE, ?_⟩
    replace hm := hm.ext hE
    replace hh := hh.ext hE
    refine rw_p rfl rfl (y_as (c := false) (y_bneq rfl rfl un4) (by simp)) ?_
    refine rw_p rfl rfl (y_move rfl) ?_
    refine rw_p rfl rfl (y_loadA (s := 5) (vs := [_, _, _, _, _]) rfl ag27 (hm0.nd 0 rfl id) rfl) ?_
    refine rw_p rfl rfl (y_loadA (s := 5) (vs := [_, _, _, _, _]) rfl ag27 (hm0.nd 3 rfl id) rfl) ?_
    refine a_call rfl rfl rfl go12 (C.as (v := .bool true) (r4_same a a p_s p cap_s c1 _ (ha_s.rd hm 1 rfl) (hb.rd.ext0 hm.to)) (congrArg Value.bool (Pl.csame_refl _))) fun v w hR => ?_
    obtain ⟨rfl, hE⟩ := hR
    refine ⟨hh.ext hE, ?_⟩
    replace hm := hm.ext hE
    replace hh := hh.ext hE
    refine rw_p rfl rfl (y_not rfl) ?_
    refine rw_p rfl rfl (y_pickF rfl rfl) ?_
    refine rw_done ?_
    refine gn_sq ?_
    refine HW_condF rfl rfl rfl ?_
    refine HW_skip rfl ?_
    refine gn_sq ?_
    refine HW_seq rfl ?_
    refine HW_text (.pure 0 (.act 1 (.act 2 (.act 3 .done)))) (by kernel_rfl) ?_
    refine rw_p rfl rfl (y_loadA (s := 5) (vs := [_, _, _, _, _]) rfl ag27 (hm.nt 0 rfl) rfl) ?_
    refine a_call rfl rfl rfl go20 (c_clone a p_s cap_s _ (ha_s.rd hm 1 rfl) (by omega)) fun v w hR => ?_
    obtain ⟨p_t, n_t, cap_t, g_t, b_t, rfl, ha_t, hmc⟩ := hR
    refine ⟨trivial, ?_⟩
    replace hm := hm.callN hmc
    obtain rfl := ha_t.lenB
    refine a_alloc rfl rfl z27 hm trivial fun m4 w hg_m4 hm hh => ?_
    refine a_store rfl rfl rfl rfl sz27 rfl hm 0 rfl rfl fun w hm => ?_
    refine rw_done ?_
    refine gn_sq ?_
    refine HW_seq rfl ?_
    refine HW_seq rfl ?_
    refine HW_text (.pure 0 (.pure 1 (.pure 2 (.pure 3 .done)))) (by kernel_rfl) ?_
    refine rw_p rfl rfl (y_fieldAddr rfl fo27_4) ?_
    refine rw_p rfl rfl (y_load rfl sc25 (hm.nt 0 rfl) rfl) ?_
    refine rw_p rfl rfl (y_len rfl rfl sl25) ?_
    refine rw_p rfl rfl (y_move rfl) ?_
    refine rw_done ?_
    refine gn_sq ?_
    refine HW_block rfl ?_
    refine HW_loopK (ι := Nat × Blk × List UInt8) rfl (ks := [2, 4, 5, 6, 38]) (.cons rfl (.cons rfl (.cons rfl (.cons rfl (.cons rfl .nil))))) (fun x => [(39, .int .i64 x.1)]) (fun x w => Mem w0 w No [(m4, .row 27 (cmV a p_t a.bs.length cap_t)), (g_t, x.2.1), (m3, .row 27 (cmV a p_s a.bs.length cap_s)), (g_s, b_s), (m1, .row 27 (cmV a p a.bs.length c1))] ∧ Acc 5 1 p_t a.bs.length cap_t (x.2.2.flatMap encB) g_t x.2.1 ∧ x.2.2.length = a.bs.length ∧ x.1 ≤ a.bs.length) (fun x => a.bs.length - x.1) (0, b_t, a.bs) (⟨(hm.pick [0, 1, 2, 3, 5] rfl), ha_t, rfl, Nat.zero_le _⟩) ⟨rfl, trivial⟩ (fun x w hM => ?_)
    obtain ⟨hm, ha_t, hxl, hk⟩ := hM
    refine HW_seq rfl ?_
    refine HW_text (.pure 0 .done) (by kernel_rfl) ?_
    refine rw_p rfl rfl (y_lt rfl rfl) ?_
    refine rw_done ?_
    refine gn_sq ?_
    refine HW_seq rfl ?_
    refine HW_cond rfl rfl (fun hc2 => ?_) (fun hc2 => ?_)
    ·
      simp only [decide_eq_true_eq] at hc2
      obtain ⟨y, hy⟩ : ∃ y_, x.2.2[x.1]? = some y_ := ⟨_, List.getElem?_eq_getElem (by omega)⟩
      obtain rfl := ha_t.ptr (by omega)
      refine HW_skip rfl ?_
      refine gn_sq ?_
      refine HW_seq rfl ?_
      refine HW_block rfl ?_
      refine HW_seq rfl ?_
      refine HW_text (.pure 0 (.pure 1 .done)) (by kernel_rfl) ?_
      refine rw_p rfl rfl (y_move rfl) ?_
      refine rw_p rfl rfl (y_assign rfl) ?_
      refine rw_done ?_
      refine gn_sq ?_
      refine HW_text (.pure 0 (.pure 1 (.pure 2 (.pure 3 (.pure 4 (.pure 5 (.pure 6 (.act 7 .done)))))))) (by kernel_rfl) ?_
      refine rw_p rfl rfl (y_fieldAddr rfl fo27_4) ?_
      refine rw_p rfl rfl (y_load rfl sc25 (hm.nt 0 rfl) rfl) ?_
      refine rw_p rfl rfl (y_move rfl) ?_
      refine rw_p rfl rfl (y_index rfl rfl sl25 rfl (by omega) (by omega)) ?_
      refine rw_p rfl rfl (y_el1 rfl sc5 (ha_t.rd hm 1 rfl).nt encB_len hy rfl) ?_
      refine rw_p rfl rfl (y_add rfl rfl (u8inc y)) ?_
      refine rw_p rfl rfl (y_index rfl rfl sl25 rfl (by omega) (by omega)) ?_
      refine a_storeE rfl rfl rfl rfl sz5 rfl rfl ha_t (by omega) hm 1 rfl fun b_t w ha_t hm => ?_
      replace ha_t := ha_t.to (show _ = (x.2.2.set x.1 (y + 1)).flatMap encB from updB _ _ _)
      refine rw_done ?_
      refine gn_bl ?_
      refine gn_sq ?_
      refine HW_text (.pure 0 (.pure 1 .done)) (by kernel_rfl) ?_
      refine rw_p rfl rfl (y_add rfl rfl (i64w (by omega) (by omega))) ?_
      refine rw_p rfl rfl (y_move rfl) ?_
      refine rw_done ?_
      refine next (x.1 + 1, b_t, x.2.2.set x.1 (y + 1)) (by simp only; omega) ⟨(hm.pick [0, 1, 2, 3, 4] rfl), ha_t, by simp [hxl], by simp only; omega⟩ ⟨nx x.1, rfl, rfl, rfl, rfl, rfl, trivial⟩
    ·
      simp only [decide_eq_false_iff_not] at hc2
      refine HW_exit rfl ?_
      refine gx_sq (gx_lp ?_)
      refine gx_here ?_
      refine gn_sq ?_
      refine HW_seq rfl ?_
      refine HW_text (.act 0 (.pure 1 (.pure 2 (.pure 3 (.act 4 (.pure 5 (.pure 6 .done))))))) (by kernel_rfl) ?_
      refine a_call rfl rfl rfl go9 (law_alive _) fun v w hR => ?_
      obtain ⟨rfl, hE⟩ := hR
      refine ⟨trivial, ?_⟩
      replace hm := hm.ext hE
      refine rw_p rfl rfl (y_move rfl) ?_
      refine rw_p rfl rfl (y_loadA (s := 5) (vs := [_, _, _, _, _]) rfl ag27 (hm.nt 2 rfl) rfl) ?_
      refine rw_p rfl rfl (y_loadA (s := 5) (vs := [_, _, _, _, _]) rfl ag27 (hm.nt 4 rfl) rfl) ?_
      refine a_call rfl rfl rfl go12 (C.as (v := .bool true) (r4_same a a p_s p cap_s c1 _ (ha_s.rd hm 3 rfl) (hb.rd.ext0 hm.to)) (congrArg Value.bool (Pl.csame_refl _))) fun v w hR => ?_
      obtain ⟨rfl, hE⟩ := hR
      refine ⟨trivial, ?_⟩
      replace hm := hm.ext hE
      refine rw_p rfl rfl (y_pickT rfl rfl) ?_
      refine rw_p rfl rfl (y_assign rfl) ?_
      refine rw_done ?_
      refine gn_sq ?_
      refine HW_ret rfl ?_
      refine toR (fin hret rfl (.tmp rfl .nil) .one ?_)
      exact ⟨rfl, hm.to⟩

end Go.Proofs.Ytabilcmhjnpjhaa
