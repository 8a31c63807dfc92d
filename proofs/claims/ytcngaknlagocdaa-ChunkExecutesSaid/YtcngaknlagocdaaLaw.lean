/- Contracts of functions of the program: what each returns. Conditions: the hypotheses of each theorem. -/
import Derived.Test.YtcngaknlagocdaaChkD
set_option linter.unusedVariables false
set_option linter.unusedSimpArgs false
namespace Go.Proofs.Ytcngaknlagocdaa
open Go Go.Cx

theorem go17 : isGo Try.prog 17 = true := by kernel_rfl
theorem go11 : isGo Try.prog 11 = true := by kernel_rfl
theorem go12 : isGo Try.prog 12 = true := by kernel_rfl
theorem go10 : isGo Try.prog 10 = true := by kernel_rfl
theorem go9 : isGo Try.prog 9 = true := by kernel_rfl
theorem un4 : Try.prog.underlying 4 = some .bool := by kernel_rfl
theorem go22 : isGo Try.prog 22 = true := by kernel_rfl

theorem law_few (c : Pl.Cm) (p : Option Addr) (cap : Nat) (s : Int) (w0 : World) (hk : Pl.okCm c) (hl : c.bs.length ≤ 9223372036854775807) (hs : Pl.I64 s) : C Try.prog 9 [.agg ⟨cmV c p c.bs.length cap⟩, .int .i64 s] w0 fun v w' => ∃ b, v = .bool b ∧ (b = true → Pl.ccheck c = 0 ∧ c.bs.length ≤ 300 ∧ Pl.chCount c s ≤ 300) ∧ Ext No w0 w' := by
  refine C_of Try.func9 rfl rfl rfl fun κ hret hnorm => ?_
  have hm := Mem.start w0
  refine HW_seq rfl ?_
  refine HW_text (.act 0 (.pure 1 .done)) (by kernel_rfl) ?_
  refine a_box rfl rfl rfl rfl hm trivial fun m1 w hg_m1 hm hh => ?_
  refine rw_p rfl rfl (y_assign rfl) ?_
  refine rw_done ?_
  refine gn_sq ?_
  refine HW_seq rfl ?_
  refine HW_text (.pure 0 (.act 1 (.pure 2 (.pure 3 (.pure 4 (.pure 5 (.pure 6 (.pure 7 (.pure 8 (.pure 9 (.pure 10 (.pure 11 (.act 12 (.pure 13 (.pure 14 (.pure 15 .done)))))))))))))))) (by kernel_rfl) ?_
  refine rw_p rfl rfl (y_loadA (s := 5) (vs := [_, _, _, _, _]) rfl ag24 (hm.nt 0 rfl) rfl) ?_
  refine a_call rfl rfl rfl go17 (r4_check _ _ _ _ hk (by omega)) fun v w hR => ?_
  obtain ⟨rfl, hE⟩ := hR
  refine ⟨trivial, ?_⟩
  replace hm := hm.ext hE
  refine rw_p rfl rfl (y_eq rfl rfl) ?_
  refine rw_p rfl rfl (y_move rfl) ?_
  refine rw_g rfl rfl rfl (fun hc => (y_fieldAddr rfl fo24_4)) ?_
  refine rw_g rfl rfl rfl (fun hc => (y_load (gx hc rfl) sc22 (hm.nt 0 rfl) rfl)) ?_
  refine rw_g rfl rfl rfl (fun hc => (y_len (gx hc rfl) rfl sl22)) ?_
  refine rw_g rfl rfl rfl (fun hc => (y_le (gx hc rfl) rfl)) ?_
  refine rw_p rfl rfl (y_and rfl rfl rfl) ?_
  refine rw_p rfl rfl (y_move rfl) ?_
  refine rw_g rfl rfl rfl (fun hc => (y_loadA (s := 5) (vs := [_, _, _, _, _]) rfl ag24 (hm.nt 0 rfl) rfl)) ?_
  refine rw_g rfl rfl rfl (fun hc => (y_move rfl)) ?_
  refine a_callG rfl rfl rfl (fun hc => (evs_c (gx hc rfl) (evs_c (gx hc rfl) evs_n))) go19 (fun hc => (r17_count c p cap s _ (by simp at hc; exact hc.1) hs)) trivial fun w hE hh => ?_
  replace hm := hm.ext hE
  refine rw_g rfl rfl rfl (fun hc => (y_le (gx hc rfl) rfl)) ?_
  refine rw_p rfl rfl (y_and rfl rfl rfl) ?_
  refine rw_p rfl rfl (y_assign rfl) ?_
  refine rw_done ?_
  refine gn_sq ?_
  refine HW_ret rfl ?_
  refine toR (fin hret rfl (.tmp rfl .nil) .one ?_)
  exact ⟨_, rfl, by simp only [Bool.and_eq_true, decide_eq_true_eq]; rintro ⟨⟨h1, h2⟩, h3⟩; exact ⟨h1, by omega, h3⟩, hm.to⟩

set_option maxHeartbeats 400000 in
theorem law_alive (w0 : World) : C Try.prog 10 [] w0 fun v w' => v = .bool true ∧ Ext No w0 w' := by
  refine C_of Try.func10 rfl rfl rfl fun κ hret hnorm => ?_
  have hm := Mem.start w0
  refine HW_seq rfl ?_
  refine HW_text (.pure 0 .done) (by kernel_rfl) ?_
  refine rw_p rfl rfl (y_assign rfl) ?_
  refine rw_done ?_
  refine gn_sq ?_
  refine HW_seq rfl ?_
  refine HW_text (.pure 0 (.act 1 (.act 2 .done))) (by kernel_rfl) ?_
  refine rw_p rfl rfl (y_build (cs := [_, _, _, _, _]) z24 ft24 rfl rfl rfl rfl rfl) ?_
  refine a_alloc rfl rfl z24 hm trivial fun m1 w hg_m1 hm hh => ?_
  refine a_store rfl rfl rfl rfl sz24 rfl hm 0 rfl rfl fun w hm => ?_
  refine rw_done ?_
  refine gn_sq ?_
  refine HW_seq rfl ?_
  refine HW_text (.pure 0 (.act 1 (.pure 2 .done))) (by kernel_rfl) ?_
  refine rw_p rfl rfl (y_loadA (s := 5) (vs := [_, _, _, _, _]) rfl ag24 (hm.nt 0 rfl) rfl) ?_
  refine a_call rfl rfl rfl go11 (ch_split (⟨1, 3, 0, 5, []⟩ : Pl.Cm) none 0 2 _ ⟨rfl, by simp, by simp, by simp⟩ (by simp) (by decide +kernel) (by decide)) fun v w hR => ?_
  obtain ⟨xs_t, p_t, n_t, cap_t, g_t, b_t, B_t, rfl, ha_t, hx_t, hh_t, hmc⟩ := hR
  refine ⟨trivial, ?_⟩
  replace hm := hm.callT1 hmc
  obtain rfl := ha_t.lenE encC_len (by decide)
  have hcl : (Pl.chunks (⟨1, 3, 0, 5, []⟩ : Pl.Cm) 2).length = 3 := by decide +kernel
  have hxl := congrArg List.length hx_t
  rw [List.length_map, hcl] at hxl
  refine rw_p rfl rfl (y_assign rfl) ?_
  refine rw_done ?_
  refine gn_sq ?_
  refine HW_seq rfl ?_
  refine HW_text (.pure 0 (.pure 1 (.pure 2 (.act 3 (.pure 4 .done))))) (by kernel_rfl) ?_
  refine rw_p rfl rfl (y_build (cs := [_, _, _, _, _]) z24 ft24 rfl rfl rfl rfl rfl) ?_
  refine rw_p rfl rfl (y_build (cs := [_, _, _, _, _]) z24 ft24 rfl rfl rfl rfl rfl) ?_
  refine rw_p rfl rfl (y_build (cs := [_, _, _, _, _]) z24 ft24 rfl rfl rfl rfl rfl) ?_
  refine a_buildSlice (l := [_, _, _, _, _, _, _, _, _, _, _, _, _, _, _]) rfl rfl sl27 z24 rfl rfl rfl rfl rfl rfl rfl hm trivial fun m2 w hg_m2 hm hh => ?_
  refine rw_p rfl rfl (y_assign rfl) ?_
  refine rw_done ?_
  refine gn_sq ?_
  refine HW_seq rfl ?_
  refine HW_text (.pure 0 (.pure 1 (.act 2 (.pure 3 (.pure 4 (.act 5 (.pure 6 (.pure 7 (.pure 8 (.act 9 (.pure 10 (.pure 11 (.pure 12 .done))))))))))))) (by kernel_rfl) ?_
  refine rw_p rfl rfl (y_move rfl) ?_
  refine rw_p rfl rfl (y_move rfl) ?_
  refine a_call rfl rfl rfl go12 (C.as (v := .bool true) (r4_all p_t _ cap_t _ xs_t [mkC ⟨1, 7, 4, 1, []⟩ none 0, mkC ⟨1, 5, 2, 2, []⟩ none 0, mkC ⟨1, 3, 0, 2, []⟩ none 0] _ (ha_t.rd hm 1 rfl) (Rd.row0 (hm.get (k := 0) rfl)) (fun y hy => (hh_t y hy).rd hm (by intro e he; simp [he])) (by simp only [List.mem_cons, List.not_mem_nil, or_false]; rintro _ (rfl | rfl | rfl) <;> rfl) (by omega) (by decide)) (congrArg Value.bool (by rw [hx_t]; decide +kernel))) fun v w hR => ?_
  obtain ⟨rfl, hE⟩ := hR
  refine ⟨trivial, ?_⟩
  replace hm := hm.ext hE
  refine rw_p rfl rfl (y_move rfl) ?_
  refine rw_p rfl rfl (y_loadA (s := 5) (vs := [_, _, _, _, _]) rfl ag24 (hm.nt 2 rfl) rfl) ?_
  refine a_call rfl rfl rfl go15 (C.as (v := .bool true) (ch_down (⟨1, 3, 0, 5, []⟩ : Pl.Cm) none 0 _ (by decide +kernel)) (congrArg Value.bool (by decide +kernel))) fun v w hR => ?_
  obtain ⟨rfl, hE⟩ := hR
  refine ⟨trivial, ?_⟩
  replace hm := hm.ext hE
  refine rw_p rfl rfl (y_pickT rfl rfl) ?_
  refine rw_p rfl rfl (y_move rfl) ?_
  refine rw_p rfl rfl (y_loadA (s := 5) (vs := [_, _, _, _, _]) rfl ag24 (hm.nt 2 rfl) rfl) ?_
  refine a_call rfl rfl rfl go14 (ch_count (⟨1, 3, 0, 5, []⟩ : Pl.Cm) none 0 2 _ (by decide +kernel) (by decide)) fun v w hR => ?_
  obtain ⟨rfl, hE⟩ := hR
  refine ⟨trivial, ?_⟩
  replace hm := hm.ext hE
  refine rw_p rfl rfl (y_as (c := true) (y_eq rfl rfl) (by decide +kernel)) ?_
  refine rw_p rfl rfl (y_pickT rfl rfl) ?_
  refine rw_p rfl rfl (y_assign rfl) ?_
  refine rw_done ?_
  refine gn_sq ?_
  refine HW_ret rfl ?_
  refine toR (fin hret rfl (.tmp rfl .nil) .one ?_)
  exact ⟨rfl, hm.to⟩

set_option maxHeartbeats 800000 in
theorem law_splits (c : Pl.Cm) (p : Option Addr) (cap : Nat) (s : Int) (w0 : World) (hb : SB.ok w0 ⟨p, cap, c.bs⟩) (hk : Pl.okCm c) (hs : Pl.I64 s)  : C Try.prog 3 [.agg ⟨cmV c p c.bs.length cap⟩, .int .i64 s] w0 fun v w' => v = .bool true ∧ Ext No w0 w' := by
  have hb1 := hb.le
  have hb2 := hb.max
  simp only at hb1 hb2
  have hbr : Rd w0 p (c.bs.flatMap encB) := hb.rd
  have hbs : cap ≠ 0 → ∀ ad, p = some ad → ad.spot = none := hb.spot
  refine C_of Try.func3 rfl rfl rfl fun κ hret hnorm => ?_
  have hm := Mem.start w0
  refine HW_seq rfl ?_
  refine HW_text (.act 0 (.pure 1 .done)) (by kernel_rfl) ?_
  refine a_box rfl rfl rfl rfl hm trivial fun m1 w hg_m1 hm hh => ?_
  refine rw_p rfl rfl (y_assign rfl) ?_
  refine rw_done ?_
  refine gn_sq ?_
  refine HW_seq rfl ?_
  refine HW_seq rfl ?_
  refine HW_text (.pure 0 (.pure 1 (.act 2 (.pure 3 .done)))) (by kernel_rfl) ?_
  refine rw_p rfl rfl (y_loadA (s := 5) (vs := [_, _, _, _, _]) rfl ag24 (hm.nt 0 rfl) rfl) ?_
  refine rw_p rfl rfl (y_move rfl) ?_
  refine a_call rfl rfl rfl go9 (law_few _ _ _ _ _ hk (by omega) hs) fun v w hR => ?_
  obtain ⟨bo, rfl, hfew, hE⟩ := hR
  refine ⟨trivial, ?_⟩
  replace hm := hm.ext hE
  refine rw_p rfl rfl (y_not rfl) ?_
  refine rw_done ?_
  refine gn_sq ?_
  refine HW_cond rfl rfl (fun hc0 => ?_) (fun hc0 => ?_)
  ·
    simp only [Bool.and_eq_true, Bool.or_eq_true, Bool.and_eq_false_iff, Bool.or_eq_false_iff, Bool.not_eq_true', Bool.not_eq_false', decide_eq_true_eq, decide_eq_false_iff_not] at hc0
    refine HW_seq rfl ?_
    refine HW_text (.act 0 (.pure 1 .done)) (by kernel_rfl) ?_
    refine a_call rfl rfl rfl go10 (law_alive _) fun v w hR => ?_
    obtain ⟨rfl, hE⟩ := hR
    refine ⟨trivial, ?_⟩
    replace hm := hm.ext hE
    refine rw_p rfl rfl (y_assign rfl) ?_
    refine rw_done ?_
    refine gn_sq ?_
    refine HW_ret rfl ?_
    refine gr_sq ?_
    refine toR (fin hret rfl (.tmp rfl .nil) .one ?_)
    exact ⟨rfl, hm.to⟩
  ·
    have hbt : bo = true := by simpa using hc0
    obtain ⟨hc, hl3, hn3⟩ := hfew hbt
    have hn0 := Pl.chCount_nonneg (s := s) hc
    have hcc := Pl.chunks_count (c := c) (s := s) hn0.1 (by omega)
    refine HW_skip rfl ?_
    refine gn_sq ?_
    refine HW_seq rfl ?_
    refine HW_text (.pure 0 (.pure 1 (.act 2 (.pure 3 .done)))) (by kernel_rfl) ?_
    refine rw_p rfl rfl (y_loadA (s := 5) (vs := [_, _, _, _, _]) rfl ag24 (hm.nt 0 rfl) rfl) ?_
    refine rw_p rfl rfl (y_move rfl) ?_
    refine a_call rfl rfl rfl go11 (ch_split c p cap s _ (hb.ext hm.to) (by omega) hc hs) fun v w hR => ?_
    obtain ⟨xs_t, p_t, n_t, cap_t, g_t, b_t, B_t, rfl, ha_t, hx_t, hh_t, hmc⟩ := hR
    refine ⟨trivial, ?_⟩
    replace hm := hm.callT1 hmc
    obtain rfl := ha_t.lenE encC_len (by decide)
    have hxl := congrArg List.length hx_t
    rw [List.length_map] at hxl
    refine rw_p rfl rfl (y_assign rfl) ?_
    refine rw_done ?_
    refine gn_sq ?_
    refine HW_seq rfl ?_
    refine HW_draw (.act 0 (.pure 1 (.pure 2 (.pure 3 (.pure 4 (.act 5 (.act 6 (.pure 7 (.pure 8 (.pure 9 (.pure 10 (.pure 12 (.pure 13 (.act 11 (.pure 14 (.pure 15 (.pure 16 (.pure 17 (.pure 19 (.act 18 (.act 20 (.pure 21 (.pure 22 (.pure 23 .done)))))))))))))))))))))))) No mix (by kernel_rfl) hm fun w hw hm0 hh => ?_
    have hm := hm0
    refine a_call rfl rfl rfl go10 (law_alive _) fun v w hR => ?_
    obtain ⟨rfl, hE⟩ := hR
    refine ⟨hh.ext hE, ?_⟩
    replace hm := hm.ext hE
    replace hh := hh.ext hE
    refine rw_p rfl rfl (y_move rfl) ?_
    refine rw_p rfl rfl (y_move rfl) ?_
    refine rw_p rfl rfl (y_loadA (s := 5) (vs := [_, _, _, _, _]) rfl ag24 (hm0.nd 1 rfl id) rfl) ?_
    refine rw_p rfl rfl (y_move rfl) ?_
    refine a_call rfl rfl rfl go13 (r17_split c p cap s _ hc (hbr.ext0 hm.to) hb1 hbs (by omega) hs) fun v w hR => ?_
    obtain ⟨xs_u, p_u, n_u, cap_u, g_u, b_u, B_u, rfl, ha_u, hx_u, hh_u, hmc⟩ := hR
    refine ⟨hh.ext hmc.to, ?_⟩
    replace hh := hh.ext hmc.to
    replace hm := hm.callT1 hmc
    obtain rfl := ha_u.lenE encC_len (by decide)
    have hul := congrArg List.length hx_u
    rw [List.length_map] at hul
    refine a_call rfl rfl rfl go12 (C.as (v := .bool true) (r4_all p_t p_u cap_t cap_u xs_t xs_u _ (ha_t.rd hm 1 rfl) (ha_u.rd hm 0 rfl) (fun y hy => (hh_t y hy).rd hm (by intro e he; simp [he])) (fun y hy => (hh_u y hy).rd hm (by intro e he; simp [he])) (by omega) (by omega)) (congrArg Value.bool (by rw [hx_t, hx_u]; simp))) fun v w hR => ?_
    obtain ⟨rfl, hE⟩ := hR
    refine ⟨hh.ext hE, ?_⟩
    replace hm := hm.ext hE
    replace hh := hh.ext hE
    refine rw_p rfl rfl (y_pickT rfl rfl) ?_
    refine rw_p rfl rfl (y_move rfl) ?_
    refine rw_p rfl rfl (y_loadA (s := 5) (vs := [_, _, _, _, _]) rfl ag24 (hm0.nd 1 rfl id) rfl) ?_
    refine rw_p rfl rfl (y_move rfl) ?_
    refine rw_p rfl rfl (y_move rfl) ?_
    refine rw_p rfl rfl (y_len rfl rfl sl27) ?_
    refine a_call rfl rfl rfl go14 (ch_count c p cap s _ hc hs) fun v w hR => ?_
    obtain ⟨rfl, hE⟩ := hR
    refine ⟨hh.ext hE, ?_⟩
    replace hm := hm.ext hE
    replace hh := hh.ext hE
    refine rw_p rfl rfl (y_as (c := true) (y_eq rfl rfl) (by simp; omega)) ?_
    refine rw_p rfl rfl (y_pickT rfl rfl) ?_
    refine rw_p rfl rfl (y_move rfl) ?_
    refine rw_p rfl rfl (y_loadA (s := 5) (vs := [_, _, _, _, _]) rfl ag24 (hm0.nd 1 rfl id) rfl) ?_
    refine rw_p rfl rfl (y_loadA (s := 5) (vs := [_, _, _, _, _]) rfl ag24 (hm0.nd 1 rfl id) rfl) ?_
    refine a_call rfl rfl rfl go15 (ch_down c p cap _ hc) fun v w hR => ?_
    obtain ⟨rfl, hE⟩ := hR
    refine ⟨hh.ext hE, ?_⟩
    replace hm := hm.ext hE
    replace hh := hh.ext hE
    refine a_call rfl rfl rfl go16 (r17_down c p cap _ hc) fun v w hR => ?_
    obtain ⟨rfl, hE⟩ := hR
    refine ⟨hh.ext hE, ?_⟩
    replace hm := hm.ext hE
    replace hh := hh.ext hE
    refine rw_p rfl rfl (y_as (c := true) (y_beql rfl rfl un4) (by simp)) ?_
    refine rw_p rfl rfl (y_pickT rfl rfl) ?_
    refine rw_p rfl rfl (y_assign rfl) ?_
    refine rw_done ?_
    refine gn_sq ?_
    refine HW_ret rfl ?_
    refine toR (fin hret rfl (.tmp rfl .nil) .one ?_)
    exact ⟨rfl, hm.to⟩

set_option maxHeartbeats 800000 in
theorem law_at (c : Pl.Cm) (p : Option Addr) (cap : Nat) (s k : Int) (w0 : World) (hb : SB.ok w0 ⟨p, cap, c.bs⟩) (hk : Pl.okCm c) (hs : Pl.I64 s) (hk64 : Pl.I64 k) : C Try.prog 6 [.agg ⟨cmV c p c.bs.length cap⟩, .int .i64 s, .int .i64 k] w0 fun v w' => v = .bool true ∧ Ext No w0 w' := by
  have hb1 := hb.le
  have hb2 := hb.max
  simp only at hb1 hb2
  have hbr : Rd w0 p (c.bs.flatMap encB) := hb.rd
  have hbs : cap ≠ 0 → ∀ ad, p = some ad → ad.spot = none := hb.spot
  refine C_of Try.func6 rfl rfl rfl fun κ hret hnorm => ?_
  have hm := Mem.start w0
  refine HW_seq rfl ?_
  refine HW_text (.act 0 (.pure 1 .done)) (by kernel_rfl) ?_
  refine a_box rfl rfl rfl rfl hm trivial fun m1 w hg_m1 hm hh => ?_
  refine rw_p rfl rfl (y_assign rfl) ?_
  refine rw_done ?_
  refine gn_sq ?_
  refine HW_seq rfl ?_
  refine HW_seq rfl ?_
  refine HW_text (.pure 0 (.act 1 (.pure 2 (.pure 3 (.pure 4 (.pure 5 (.pure 6 (.pure 7 (.pure 8 .done))))))))) (by kernel_rfl) ?_
  refine rw_p rfl rfl (y_loadA (s := 5) (vs := [_, _, _, _, _]) rfl ag24 (hm.nt 0 rfl) rfl) ?_
  refine a_call rfl rfl rfl go17 (r4_check _ _ _ _ hk (by omega)) fun v w hR => ?_
  obtain ⟨rfl, hE⟩ := hR
  refine ⟨trivial, ?_⟩
  replace hm := hm.ext hE
  refine rw_p rfl rfl (y_ne rfl rfl) ?_
  refine rw_p rfl rfl (y_move rfl) ?_
  refine rw_g rfl rfl rfl (fun hc => (y_fieldAddr rfl fo24_4)) ?_
  refine rw_g rfl rfl rfl (fun hc => (y_load (gx hc rfl) sc22 (hm.nt 0 rfl) rfl)) ?_
  refine rw_g rfl rfl rfl (fun hc => (y_len (gx hc rfl) rfl sl22)) ?_
  refine rw_g rfl rfl rfl (fun hc => (y_gt (gx hc rfl) rfl)) ?_
  refine rw_p rfl rfl (y_or rfl rfl rfl) ?_
  refine rw_done ?_
  refine gn_sq ?_
  refine HW_cond rfl rfl (fun hc0 => ?_) (fun hc0 => ?_)
  ·
    simp only [Bool.and_eq_true, Bool.or_eq_true, Bool.and_eq_false_iff, Bool.or_eq_false_iff, Bool.not_eq_true', Bool.not_eq_false', decide_eq_true_eq, decide_eq_false_iff_not] at hc0
    refine HW_seq rfl ?_
    refine HW_text (.act 0 (.pure 1 .done)) (by kernel_rfl) ?_
    refine a_call rfl rfl rfl go10 (law_alive _) fun v w hR => ?_
    obtain ⟨rfl, hE⟩ := hR
    refine ⟨trivial, ?_⟩
    replace hm := hm.ext hE
    refine rw_p rfl rfl (y_assign rfl) ?_
    refine rw_done ?_
    refine gn_sq ?_
    refine HW_ret rfl ?_
    refine gr_sq ?_
    refine toR (fin hret rfl (.tmp rfl .nil) .one ?_)
    exact ⟨rfl, hm.to⟩
  ·
    simp only [Bool.or_eq_false_iff, decide_eq_false_iff_not] at hc0
    have hc : Pl.ccheck c = 0 := by have := hc0.1; simpa using this
    have hn0 := Pl.chCount_nonneg (s := s) hc
    refine HW_skip rfl ?_
    refine gn_sq ?_
    refine HW_seq rfl ?_
    refine HW_text (.pure 0 (.pure 1 (.pure 2 (.act 3 (.pure 4 (.pure 5 (.pure 6 (.act 7 (.act 8 (.pure 9 .done)))))))))) (by kernel_rfl) ?_
    refine rw_p rfl rfl (y_loadA (s := 5) (vs := [_, _, _, _, _]) rfl ag24 (hm.nt 0 rfl) rfl) ?_
    refine rw_p rfl rfl (y_move rfl) ?_
    refine rw_p rfl rfl (y_move rfl) ?_
    refine a_call rfl rfl rfl go22 (ch_at c p cap s k _ hc (hbr.ext0 hm.to) hb1 hbs (by omega) hs hk64) fun v w hR => ?_
    obtain ⟨p_t, n_t, cap_t, g_t, b_t, rfl, ha_t, hmc⟩ := hR
    refine ⟨trivial, ?_⟩
    replace hm := hm.callN hmc
    obtain rfl := ha_t.lenB
    refine rw_p rfl rfl (y_move rfl) ?_
    refine rw_p rfl rfl (y_extract rfl rfl) ?_
    refine rw_p rfl rfl (y_extract rfl rfl) ?_
    refine a_alloc rfl rfl z24 hm trivial fun m2 w hg_m2 hm hh => ?_
    refine a_store rfl rfl rfl rfl sz24 rfl hm 0 rfl rfl fun w hm => ?_
    refine rw_p rfl rfl (y_assign rfl) ?_
    refine rw_done ?_
    refine gn_sq ?_
    refine HW_seq rfl ?_
    refine HW_text (.pure 0 (.pure 1 (.act 2 (.pure 3 .done)))) (by kernel_rfl) ?_
    refine rw_p rfl rfl (y_loadA (s := 5) (vs := [_, _, _, _, _]) rfl ag24 (hm.nt 2 rfl) rfl) ?_
    refine rw_p rfl rfl (y_move rfl) ?_
    refine a_call rfl rfl rfl go19 (r17_count c p cap s _ hc hs) fun v w hR => ?_
    obtain ⟨rfl, hE⟩ := hR
    refine ⟨trivial, ?_⟩
    replace hm := hm.ext hE
    refine rw_p rfl rfl (y_assign rfl) ?_
    refine rw_done ?_
    refine gn_sq ?_
    refine HW_seq rfl ?_
    refine HW_seq rfl ?_
    by_cases hin : 0 ≤ k ∧ k < Pl.chCount c s
    have hat : (if 0 ≤ k ∧ k < Pl.chCount c s then Pl.chAt c s k else Pl.cm0) = Pl.chAt c s k := if_pos hin
    rotate_left
    have hat : (if 0 ≤ k ∧ k < Pl.chCount c s then Pl.chAt c s k else Pl.cm0) = Pl.cm0 := if_neg hin
    rotate_left
    ·
      refine HW_text (.pure 0 (.pure 1 (.pure 2 (.pure 3 (.pure 4 (.pure 5 (.pure 6 .done))))))) (by kernel_rfl) ?_
      refine rw_p rfl rfl (y_move rfl) ?_
      refine rw_p rfl rfl (y_as (c := false) (y_lt rfl rfl) (decide_eq_false (by omega))) ?_
      refine rw_p rfl rfl (y_move rfl) ?_
      refine rw_p rfl rfl (y_move rfl) ?_
      refine rw_p rfl rfl (y_move rfl) ?_
      refine rw_p rfl rfl (y_as (c := false) (y_ge rfl rfl) (decide_eq_false (by omega))) ?_
      refine rw_p rfl rfl (y_pickF rfl rfl) ?_
      refine rw_done ?_
      refine gn_sq ?_
      refine HW_condF rfl rfl rfl ?_
      refine HW_skip rfl ?_
      refine gn_sq ?_
      refine HW_seq rfl ?_
      refine HW_draw (.act 0 (.pure 1 (.pure 2 (.pure 3 (.pure 4 (.pure 5 (.pure 6 (.pure 7 (.pure 8 (.act 9 (.act 10 (.pure 11 (.pure 12 (.pure 13 (.pure 14 (.pure 16 (.act 15 (.pure 17 (.pure 18 (.pure 19 .done)))))))))))))))))))) No mix (by kernel_rfl) hm fun w hw hm0 hh => ?_
      have hm := hm0
      refine a_call rfl rfl rfl go10 (law_alive _) fun v w hR => ?_
      obtain ⟨rfl, hE⟩ := hR
      refine ⟨hh.ext hE, ?_⟩
      replace hm := hm.ext hE
      replace hh := hh.ext hE
      refine rw_p rfl rfl (y_move rfl) ?_
      refine rw_p rfl rfl (y_as (c := true) (y_move rfl) (by simp [hin])) ?_
      refine rw_p rfl rfl (y_pickT rfl rfl) ?_
      refine rw_p rfl rfl (y_move rfl) ?_
      refine rw_p rfl rfl (y_loadA (s := 5) (vs := [_, _, _, _, _]) rfl ag24 (hm0.nd 0 rfl id) rfl) ?_
      refine rw_p rfl rfl (y_loadA (s := 5) (vs := [_, _, _, _, _]) rfl ag24 (hm0.nd 2 rfl id) rfl) ?_
      refine rw_p rfl rfl (y_move rfl) ?_
      refine rw_p rfl rfl (y_move rfl) ?_
      refine a_call rfl rfl rfl go24 (r17_at c p cap s k _ hc (hbr.ext0 hm.to) hb1 hbs (by omega) hs hin) fun v w hR => ?_
      obtain ⟨p_u, n_u, cap_u, g_u, b_u, rfl, ha_u, hmc⟩ := hR
      refine ⟨hh.ext hmc.to, ?_⟩
      replace hh := hh.ext hmc.to
      replace hm := hm.callN hmc
      obtain rfl := ha_u.lenB
      refine a_call rfl rfl rfl go23 (C.as (v := .bool true) (r4_same _ (Pl.chAt c s k) p_t p_u cap_t cap_u _ (ha_t.rd hm 2 rfl) (ha_u.rd hm 0 rfl)) (congrArg Value.bool (by rw [hat]; exact Pl.csame_refl _))) fun v w hR => ?_
      obtain ⟨rfl, hE⟩ := hR
      refine ⟨hh.ext hE, ?_⟩
      replace hm := hm.ext hE
      replace hh := hh.ext hE
      refine rw_p rfl rfl (y_pickT rfl rfl) ?_
      refine rw_p rfl rfl (y_move rfl) ?_
      refine rw_p rfl rfl (y_loadA (s := 5) (vs := [_, _, _, _, _]) rfl ag24 (hm0.nd 2 rfl id) rfl) ?_
      refine rw_p rfl rfl (y_move rfl) ?_
      refine rw_p rfl rfl (y_move rfl) ?_
      refine a_call rfl rfl rfl go14 (ch_count c p cap s _ hc hs) fun v w hR => ?_
      obtain ⟨rfl, hE⟩ := hR
      refine ⟨hh.ext hE, ?_⟩
      replace hm := hm.ext hE
      replace hh := hh.ext hE
      refine rw_p rfl rfl (y_as (c := true) (y_eq rfl rfl) (by simp)) ?_
      refine rw_p rfl rfl (y_pickT rfl rfl) ?_
      refine rw_p rfl rfl (y_assign rfl) ?_
      refine rw_done ?_
      refine gn_sq ?_
      refine HW_ret rfl ?_
      refine toR (fin hret rfl (.tmp rfl .nil) .one ?_)
      exact ⟨rfl, hm.to⟩
    ·
      refine HW_text (.pure 0 (.pure 1 (.pure 2 (.pure 3 (.pure 4 (.pure 5 (.pure 6 .done))))))) (by kernel_rfl) ?_
      refine rw_p rfl rfl (y_move rfl) ?_
      refine rw_p rfl rfl (y_lt rfl rfl) ?_
      refine rw_p rfl rfl (y_move rfl) ?_
      refine rw_g rfl rfl rfl (fun hc => (y_move rfl)) ?_
      refine rw_g rfl rfl rfl (fun hc => (y_move rfl)) ?_
      refine rw_g rfl rfl rfl (fun hc => (y_ge (gx hc rfl) (gx hc rfl))) ?_
      refine rw_p rfl rfl (y_or rfl rfl rfl) ?_
      refine rw_done ?_
      refine gn_sq ?_
      refine HW_condT rfl rfl (by simp only [Bool.or_eq_true, decide_eq_true_eq]; omega) ?_
      refine HW_seq rfl ?_
      refine HW_text (.act 0 (.pure 1 (.pure 2 (.pure 3 (.pure 4 (.pure 5 (.pure 6 (.pure 7 (.act 8 (.pure 9 (.pure 10 (.pure 11 (.pure 12 (.act 13 (.pure 14 (.pure 15 (.pure 16 (.pure 17 .done)))))))))))))))))) (by kernel_rfl) ?_
      refine a_call rfl rfl rfl go10 (law_alive _) fun v w hR => ?_
      obtain ⟨rfl, hE⟩ := hR
      refine ⟨trivial, ?_⟩
      replace hm := hm.ext hE
      refine rw_p rfl rfl (y_move rfl) ?_
      refine rw_p rfl rfl (y_move rfl) ?_
      refine rw_p rfl rfl (y_as (c := true) (y_not rfl) (by simp [hin])) ?_
      refine rw_p rfl rfl (y_pickT rfl rfl) ?_
      refine rw_p rfl rfl (y_move rfl) ?_
      refine rw_p rfl rfl (y_loadA (s := 5) (vs := [_, _, _, _, _]) rfl ag24 (hm.nt 0 rfl) rfl) ?_
      refine rw_p rfl rfl (y_build (cs := [_, _, _, _, _]) z24 ft24 rfl rfl rfl rfl rfl) ?_
      refine a_call rfl rfl rfl go23 (C.as (v := .bool true) (r4_same _ ⟨0, 0, 0, 0, []⟩ p_t none cap_t 0 _ (ha_t.rd hm 1 rfl) rfl) (congrArg Value.bool (by rw [hat]; rfl))) fun v w hR => ?_
      obtain ⟨rfl, hE⟩ := hR
      refine ⟨trivial, ?_⟩
      replace hm := hm.ext hE
      refine rw_p rfl rfl (y_pickT rfl rfl) ?_
      refine rw_p rfl rfl (y_move rfl) ?_
      refine rw_p rfl rfl (y_loadA (s := 5) (vs := [_, _, _, _, _]) rfl ag24 (hm.nt 2 rfl) rfl) ?_
      refine rw_p rfl rfl (y_move rfl) ?_
      refine a_call rfl rfl rfl go14 (ch_count c p cap s _ hc hs) fun v w hR => ?_
      obtain ⟨rfl, hE⟩ := hR
      refine ⟨trivial, ?_⟩
      replace hm := hm.ext hE
      refine rw_p rfl rfl (y_move rfl) ?_
      refine rw_p rfl rfl (y_as (c := true) (y_eq rfl rfl) (by simp)) ?_
      refine rw_p rfl rfl (y_pickT rfl rfl) ?_
      refine rw_p rfl rfl (y_assign rfl) ?_
      refine rw_done ?_
      refine gn_sq ?_
      refine HW_ret rfl ?_
      refine gr_sq ?_
      refine toR (fin hret rfl (.tmp rfl .nil) .one ?_)
      exact ⟨rfl, hm.to⟩

end Go.Proofs.Ytcngaknlagocdaa
