/- Contracts of functions of the program: what each returns. Conditions: the hypotheses of each theorem. -/
import Derived.Test.YtlgkhajmjgepaaaLaw
set_option linter.unusedVariables false
set_option linter.unusedSimpArgs false
namespace Go.Proofs.Ytlgkhajmjgepaaa
open Go Go.Cx

theorem ag25 : aggS Try.prog 25 = some 5 := by kernel_rfl
theorem go12 : isGo Try.prog 12 = true := by kernel_rfl
theorem go9 : isGo Try.prog 9 = true := by kernel_rfl
theorem un4 : Try.prog.underlying 4 = some .bool := by kernel_rfl
theorem go13 : isGo Try.prog 13 = true := by kernel_rfl
theorem go17 : isGo Try.prog 17 = true := by kernel_rfl
theorem go8 : isGo Try.prog 8 = true := by kernel_rfl
theorem sz5 : szO Try.prog 5 = some 1 := by kernel_rfl
theorem go14 : isGo Try.prog 14 = true := by kernel_rfl
theorem is36 : (Try.prog.underlying 36).isSome = true := by kernel_rfl

set_option maxHeartbeats 800000 in
theorem law_same (a b : Pl.Rc) (p q : Option Addr) (c1 c2 : Nat) (n : Int) (w0 : World) (hp : Rd w0 p (a.bs.flatMap encB)) (hq : Rd w0 q (b.bs.flatMap encB)) (hn : Pl.I64 n) : C Try.prog 5 [.agg ⟨rcV a p a.bs.length c1⟩, .agg ⟨rcV b q b.bs.length c2⟩, .int .i64 n] w0 fun v w' => v = .bool true ∧ Ext No w0 w' := by
  refine C_of Try.func5 rfl rfl rfl fun κ hret hnorm => ?_
  have hm := Mem.start w0
  refine HW_seq rfl ?_
  refine HW_text (.act 0 (.act 1 (.pure 2 .done))) (by kernel_rfl) ?_
  refine a_box rfl rfl rfl rfl hm trivial fun m1 w hg_m1 hm hh => ?_
  refine a_box rfl rfl rfl rfl hm trivial fun m2 w hg_m2 hm hh => ?_
  refine rw_p rfl rfl (y_assign rfl) ?_
  refine rw_done ?_
  refine gn_sq ?_
  refine HW_seq rfl ?_
  refine HW_seq rfl ?_
  refine HW_text (.pure 0 (.pure 1 (.pure 2 (.pure 3 (.pure 4 (.pure 5 (.pure 6 (.pure 7 (.pure 8 (.pure 9 .done)))))))))) (by kernel_rfl) ?_
  refine rw_p rfl rfl (y_fieldAddr rfl fo25_4) ?_
  refine rw_p rfl rfl (y_load rfl sc23 (hm.nt 1 rfl) rfl) ?_
  refine rw_p rfl rfl (y_len rfl rfl sl23) ?_
  refine rw_p rfl rfl (y_gt rfl rfl) ?_
  refine rw_p rfl rfl (y_move rfl) ?_
  refine rw_g rfl rfl rfl (fun hc => (y_fieldAddr rfl fo25_4)) ?_
  refine rw_g rfl rfl rfl (fun hc => (y_load (gx hc rfl) sc23 (hm.nt 0 rfl) rfl)) ?_
  refine rw_g rfl rfl rfl (fun hc => (y_len (gx hc rfl) rfl sl23)) ?_
  refine rw_g rfl rfl rfl (fun hc => (y_gt (gx hc rfl) rfl)) ?_
  refine rw_p rfl rfl (y_or rfl rfl rfl) ?_
  refine rw_done ?_
  refine gn_sq ?_
  refine HW_cond rfl rfl (fun hc0 => ?_) (fun hc0 => ?_)
  ·
    simp only [Bool.and_eq_true, Bool.or_eq_true, Bool.and_eq_false_iff, Bool.or_eq_false_iff, Bool.not_eq_true', Bool.not_eq_false', decide_eq_true_eq, decide_eq_false_iff_not] at hc0
    refine HW_seq rfl ?_
    refine HW_text (.act 0 (.pure 1 .done)) (by kernel_rfl) ?_
    refine a_call rfl rfl rfl go9 (law_alive _) fun v w hR => ?_
    obtain ⟨rfl, hE⟩ := hR
    refine ⟨trivial, ?_⟩
    replace hm := hm.ext hE
    refine rw_p rfl rfl (y_assign rfl) ?_
    refine rw_done ?_
    refine gn_sq ?_
    refine HW_ret rfl ?_
    refine gr_sq ?_
    refine toR (fin hret rfl (.tmp rfl .nil) .one ?_)
    exact ⟨rfl, hm.to⟩
  ·
    simp only [Bool.and_eq_true, Bool.or_eq_true, Bool.and_eq_false_iff, Bool.or_eq_false_iff, Bool.not_eq_true', Bool.not_eq_false', decide_eq_true_eq, decide_eq_false_iff_not] at hc0
    refine HW_skip rfl ?_
    refine gn_sq ?_
    refine HW_seq rfl ?_
    refine HW_text (.pure 0 .done) (by kernel_rfl) ?_
    refine rw_p rfl rfl (y_assign rfl) ?_
    refine rw_done ?_
    refine gn_sq ?_
    refine HW_seq rfl ?_
    refine HW_seq rfl ?_
    refine HW_text (.pure 0 (.pure 1 (.pure 2 (.pure 3 (.pure 4 (.pure 5 .done)))))) (by kernel_rfl) ?_
    refine rw_p rfl rfl (y_move rfl) ?_
    refine rw_p rfl rfl (y_ge rfl rfl) ?_
    refine rw_p rfl rfl (y_move rfl) ?_
    refine rw_g rfl rfl rfl (fun hc => (y_move rfl)) ?_
    refine rw_g rfl rfl rfl (fun hc => (y_le (gx hc rfl) rfl)) ?_
    refine rw_p rfl rfl (y_and rfl rfl rfl) ?_
    refine rw_done ?_
    refine gn_sq ?_
    refine HW_cond rfl rfl (fun hc1 => ?_) (fun hc1 => ?_)
    ·
      simp only [Bool.and_eq_true, decide_eq_true_eq] at hc1
      have hz : Pl.rsize n = n + 44 := by unfold Pl.rsize; rw [if_neg (by omega)]; omega
      refine HW_text (.pure 0 (.pure 1 (.pure 2 .done))) (by kernel_rfl) ?_
      refine rw_p rfl rfl (y_move rfl) ?_
      refine rw_p rfl rfl (y_add rfl rfl (i64w (by omega) (by omega))) ?_
      refine rw_p rfl rfl (y_assign rfl) ?_
      refine rw_done ?_
      refine gn_sq ?_
      refine HW_seq rfl ?_
      refine HW_draw (.act 0 (.pure 1 (.pure 2 (.pure 3 (.pure 5 (.pure 6 (.act 4 (.act 7 (.pure 8 (.pure 9 (.pure 10 (.pure 11 (.pure 12 (.act 13 (.pure 14 (.pure 15 (.pure 16 (.pure 18 (.cut (.act 17 (.pure 19 (.pure 20 (.pure 21 .done))))))))))))))))))))))) No mix (by kernel_rfl) hm fun w hw hm0 hh => ?_
      have hm := hm0
      refine a_call rfl rfl rfl go9 (law_alive _) fun v w hR => ?_
      obtain ⟨rfl, hE⟩ := hR
      refine ⟨hh.ext hE, ?_⟩
      replace hm := hm.ext hE
      replace hh := hh.ext hE
      refine rw_p rfl rfl (y_move rfl) ?_
      refine rw_p rfl rfl (y_loadA (s := 5) (vs := [_, _, _, _, _]) rfl ag25 (hm0.nd 1 rfl id) rfl) ?_
      refine rw_p rfl rfl (y_loadA (s := 5) (vs := [_, _, _, _, _]) rfl ag25 (hm0.nd 0 rfl id) rfl) ?_
      refine rw_p rfl rfl (y_loadA (s := 5) (vs := [_, _, _, _, _]) rfl ag25 (hm0.nd 1 rfl id) rfl) ?_
      refine rw_p rfl rfl (y_loadA (s := 5) (vs := [_, _, _, _, _]) rfl ag25 (hm0.nd 0 rfl id) rfl) ?_
      refine a_call rfl rfl rfl go15 (rec_same a b p q c1 c2 _ (hp.ext0 hm.to) (hq.ext0 hm.to)) fun v w hR => ?_
      obtain ⟨rfl, hE⟩ := hR
      refine ⟨hh.ext hE, ?_⟩
      replace hm := hm.ext hE
      replace hh := hh.ext hE
      refine a_call rfl rfl rfl go12 (r21_same a b p q c1 c2 _ (hp.ext0 hm.to) (hq.ext0 hm.to)) fun v w hR => ?_
      obtain ⟨rfl, hE⟩ := hR
      refine ⟨hh.ext hE, ?_⟩
      replace hm := hm.ext hE
      replace hh := hh.ext hE
      refine rw_p rfl rfl (y_as (c := true) (y_beql rfl rfl un4) (by simp)) ?_
      refine rw_p rfl rfl (y_pickT rfl rfl) ?_
      refine rw_p rfl rfl (y_move rfl) ?_
      refine rw_p rfl rfl (y_loadA (s := 5) (vs := [_, _, _, _, _]) rfl ag25 (hm0.nd 1 rfl id) rfl) ?_
      refine rw_p rfl rfl (y_loadA (s := 5) (vs := [_, _, _, _, _]) rfl ag25 (hm0.nd 1 rfl id) rfl) ?_
      refine a_call rfl rfl rfl go15 (C.as (v := .bool true) (rec_same a a p p c1 c1 _ (hp.ext0 hm.to) (hp.ext0 hm.to)) (congrArg Value.bool (Pl.rsame_refl a))) fun v w hR => ?_
      obtain ⟨rfl, hE⟩ := hR
      refine ⟨hh.ext hE, ?_⟩
      replace hm := hm.ext hE
      replace hh := hh.ext hE
      refine rw_p rfl rfl (y_pickT rfl rfl) ?_
      refine rw_p rfl rfl (y_move rfl) ?_
      refine rw_p rfl rfl (y_move rfl) ?_
      refine rw_p rfl rfl (y_move rfl) ?_
      refine a_cut ?_
      refine a_call rfl rfl rfl go16 (rec_size n _ hn) fun v w hR => ?_
      obtain ⟨rfl, hE⟩ := hR
      refine ⟨trivial, ?_⟩
      replace hm := hm.ext hE
      refine rw_p rfl rfl (y_as (c := true) (y_eq rfl rfl) (by rw [hz]; simp)) ?_
      refine rw_p rfl rfl (y_pickT rfl rfl) ?_
      refine rw_p rfl rfl (y_assign rfl) ?_
      refine rw_done ?_
      refine gn_sq ?_
      refine HW_ret rfl ?_
      refine toR (fin hret rfl (.tmp rfl .nil) .one ?_)
      exact ⟨rfl, hm.to⟩
    ·
      simp only [Bool.and_eq_false_iff, decide_eq_false_iff_not] at hc1
      have hz : Pl.rsize n = 0 := by unfold Pl.rsize; rw [if_pos (by omega)]
      refine HW_skip rfl ?_
      refine gn_sq ?_
      refine HW_seq rfl ?_
      refine HW_draw (.act 0 (.pure 1 (.pure 2 (.pure 3 (.pure 5 (.pure 6 (.act 4 (.act 7 (.pure 8 (.pure 9 (.pure 10 (.pure 11 (.pure 12 (.act 13 (.pure 14 (.pure 15 (.pure 16 (.pure 18 (.cut (.act 17 (.pure 19 (.pure 20 (.pure 21 .done))))))))))))))))))))))) No mix (by kernel_rfl) hm fun w hw hm0 hh => ?_
      have hm := hm0
      refine a_call rfl rfl rfl go9 (law_alive _) fun v w hR => ?_
      obtain ⟨rfl, hE⟩ := hR
      refine ⟨hh.ext hE, ?_⟩
      replace hm := hm.ext hE
      replace hh := hh.ext hE
      refine rw_p rfl rfl (y_move rfl) ?_
      refine rw_p rfl rfl (y_loadA (s := 5) (vs := [_, _, _, _, _]) rfl ag25 (hm0.nd 1 rfl id) rfl) ?_
      refine rw_p rfl rfl (y_loadA (s := 5) (vs := [_, _, _, _, _]) rfl ag25 (hm0.nd 0 rfl id) rfl) ?_
      refine rw_p rfl rfl (y_loadA (s := 5) (vs := [_, _, _, _, _]) rfl ag25 (hm0.nd 1 rfl id) rfl) ?_
      refine rw_p rfl rfl (y_loadA (s := 5) (vs := [_, _, _, _, _]) rfl ag25 (hm0.nd 0 rfl id) rfl) ?_
      refine a_call rfl rfl rfl go15 (rec_same a b p q c1 c2 _ (hp.ext0 hm.to) (hq.ext0 hm.to)) fun v w hR => ?_
      obtain ⟨rfl, hE⟩ := hR
      refine ⟨hh.ext hE, ?_⟩
      replace hm := hm.ext hE
      replace hh := hh.ext hE
      refine a_call rfl rfl rfl go12 (r21_same a b p q c1 c2 _ (hp.ext0 hm.to) (hq.ext0 hm.to)) fun v w hR => ?_
      obtain ⟨rfl, hE⟩ := hR
      refine ⟨hh.ext hE, ?_⟩
      replace hm := hm.ext hE
      replace hh := hh.ext hE
      refine rw_p rfl rfl (y_as (c := true) (y_beql rfl rfl un4) (by simp)) ?_
      refine rw_p rfl rfl (y_pickT rfl rfl) ?_
      refine rw_p rfl rfl (y_move rfl) ?_
      refine rw_p rfl rfl (y_loadA (s := 5) (vs := [_, _, _, _, _]) rfl ag25 (hm0.nd 1 rfl id) rfl) ?_
      refine rw_p rfl rfl (y_loadA (s := 5) (vs := [_, _, _, _, _]) rfl ag25 (hm0.nd 1 rfl id) rfl) ?_
      refine a_call rfl rfl rfl go15 (C.as (v := .bool true) (rec_same a a p p c1 c1 _ (hp.ext0 hm.to) (hp.ext0 hm.to)) (congrArg Value.bool (Pl.rsame_refl a))) fun v w hR => ?_
      obtain ⟨rfl, hE⟩ := hR
      refine ⟨hh.ext hE, ?_⟩
      replace hm := hm.ext hE
      replace hh := hh.ext hE
      refine rw_p rfl rfl (y_pickT rfl rfl) ?_
      refine rw_p rfl rfl (y_move rfl) ?_
      refine rw_p rfl rfl (y_move rfl) ?_
      refine rw_p rfl rfl (y_move rfl) ?_
      refine a_cut ?_
      refine a_call rfl rfl rfl go16 (rec_size n _ hn) fun v w hR => ?_
      obtain ⟨rfl, hE⟩ := hR
      refine ⟨trivial, ?_⟩
      replace hm := hm.ext hE
      refine rw_p rfl rfl (y_as (c := true) (y_eq rfl rfl) (by rw [hz]; simp)) ?_
      refine rw_p rfl rfl (y_pickT rfl rfl) ?_
      refine rw_p rfl rfl (y_assign rfl) ?_
      refine rw_done ?_
      refine gn_sq ?_
      refine HW_ret rfl ?_
      refine toR (fin hret rfl (.tmp rfl .nil) .one ?_)
      exact ⟨rfl, hm.to⟩

set_option maxHeartbeats 800000 in
theorem law_encodes (r : Pl.Rc) (p : Option Addr) (cap : Nat) (w0 : World) (hb : SB.ok w0 ⟨p, cap, r.bs⟩) (hk : Pl.okRc r) : C Try.prog 6 [.agg ⟨rcV r p r.bs.length cap⟩] w0 fun v w' => v = .bool true ∧ Ext No w0 w' := by
  have hb1 := hb.le
  have hb2 := hb.max
  simp only at hb1 hb2
  have hx : Rd w0 p (r.bs.flatMap encB) := hb.rd
  have hbs : cap ≠ 0 → ∀ ad, p = some ad → ad.spot = none := hb.spot
  refine C_of Try.func6 rfl rfl rfl fun κ hret hnorm => ?_
  have hm := Mem.start w0
  refine HW_seq rfl ?_
  refine HW_text (.act 0 (.pure 1 .done)) (by kernel_rfl) ?_
  refine a_box rfl rfl rfl rfl hm trivial fun m1 w hg_m1 hm hh => ?_
  refine rw_p rfl rfl (y_assign rfl) ?_
  refine rw_done ?_
  refine gn_sq ?_
  refine HW_seq rfl ?_
  refine HW_seq rfl ?_
  refine HW_text (.pure 0 (.pure 1 (.pure 2 (.pure 3 .done)))) (by kernel_rfl) ?_
  refine rw_p rfl rfl (y_fieldAddr rfl fo25_4) ?_
  refine rw_p rfl rfl (y_load rfl sc23 (hm.nt 0 rfl) rfl) ?_
  refine rw_p rfl rfl (y_len rfl rfl sl23) ?_
  refine rw_p rfl rfl (y_gt rfl rfl) ?_
  refine rw_done ?_
  refine gn_sq ?_
  refine HW_cond rfl rfl (fun hc0 => ?_) (fun hc0 => ?_)
  ·
    refine HW_seq rfl ?_
    refine HW_text (.act 0 (.pure 1 .done)) (by kernel_rfl) ?_
    refine a_call rfl rfl rfl go9 (law_alive _) fun v w hR => ?_
    obtain ⟨rfl, hE⟩ := hR
    refine ⟨trivial, ?_⟩
    replace hm := hm.ext hE
    refine rw_p rfl rfl (y_assign rfl) ?_
    refine rw_done ?_
    refine gn_sq ?_
    refine HW_ret rfl ?_
    refine gr_sq ?_
    refine toR (fin hret rfl (.tmp rfl .nil) .one ?_)
    exact ⟨rfl, hm.to⟩
  ·
    simp only [decide_eq_false_iff_not] at hc0
    refine HW_skip rfl ?_
    refine gn_sq ?_
    refine HW_seq rfl ?_
    cases hr : Pl.rright r
    ·
      refine HW_text (.pure 0 (.act 1 (.pure 2 (.pure 3 (.pure 4 (.pure 5 (.pure 6 .done))))))) (by kernel_rfl) ?_
      refine rw_p rfl rfl (y_loadA (s := 5) (vs := [_, _, _, _, _]) rfl ag25 (hm.nt 0 rfl) rfl) ?_
      refine a_call rfl rfl rfl go10 (rec_encF r p cap _ (hx.ext0 hm.to) hk (by omega) hr) fun v w hR => ?_
      obtain ⟨⟨q_, c_, rfl⟩, hE⟩ := hR
      refine ⟨trivial, ?_⟩
      replace hm := hm.ext hE
      refine rw_p rfl rfl (y_move rfl) ?_
      refine rw_p rfl rfl (y_extract rfl rfl) ?_
      refine rw_p rfl rfl (y_extract rfl rfl) ?_
      refine rw_p rfl rfl (y_assign rfl) ?_
      refine rw_p rfl rfl (y_assign rfl) ?_
      refine rw_done ?_
      refine gn_sq ?_
      refine HW_seq rfl ?_
      refine HW_seq rfl ?_
      refine HW_text (.pure 0 (.act 1 (.pure 2 .done))) (by kernel_rfl) ?_
      refine rw_p rfl rfl (y_loadA (s := 5) (vs := [_, _, _, _, _]) rfl ag25 (hm.nt 0 rfl) rfl) ?_
      refine a_call rfl rfl rfl go8 (C.as (v := .bool false) (r21_right r p cap _ hk) (congrArg Value.bool hr)) fun v w hR => ?_
      obtain ⟨rfl, hE⟩ := hR
      refine ⟨trivial, ?_⟩
      replace hm := hm.ext hE
      refine rw_p rfl rfl (y_not rfl) ?_
      refine rw_done ?_
      refine gn_sq ?_
      refine HW_condT rfl rfl rfl ?_
      refine HW_seq rfl ?_
      refine HW_text (.act 0 (.pure 1 (.pure 2 (.pure 3 (.pure 4 (.pure 5 (.pure 6 (.pure 7 (.pure 8 (.pure 9 (.pure 10 .done))))))))))) (by kernel_rfl) ?_
      refine a_call rfl rfl rfl go9 (law_alive _) fun v w hR => ?_
      obtain ⟨rfl, hE⟩ := hR
      refine ⟨trivial, ?_⟩
      replace hm := hm.ext hE
      refine rw_p rfl rfl (y_move rfl) ?_
      refine rw_p rfl rfl (y_move rfl) ?_
      refine rw_p rfl rfl (y_len rfl rfl sl23) ?_
      refine rw_p rfl rfl (y_as (c := true) (y_eq rfl rfl) (by decide +kernel)) ?_
      refine rw_p rfl rfl (y_pickT rfl rfl) ?_
      refine rw_p rfl rfl (y_move rfl) ?_
      refine rw_p rfl rfl (y_move rfl) ?_
      refine rw_p rfl rfl (y_as (c := true) (y_eq rfl rfl) (by decide +kernel)) ?_
      refine rw_p rfl rfl (y_pickT rfl rfl) ?_
      refine rw_p rfl rfl (y_assign rfl) ?_
      refine rw_done ?_
      refine gn_sq ?_
      refine HW_ret rfl ?_
      refine gr_sq ?_
      refine toR (fin hret rfl (.tmp rfl .nil) .one ?_)
      exact ⟨rfl, hm.to⟩
    ·
      refine HW_text (.pure 0 (.act 1 (.pure 2 (.pure 3 (.pure 4 (.pure 5 (.pure 6 .done))))))) (by kernel_rfl) ?_
      refine rw_p rfl rfl (y_loadA (s := 5) (vs := [_, _, _, _, _]) rfl ag25 (hm.nt 0 rfl) rfl) ?_
      refine a_call rfl rfl rfl go10 (rec_encT r p cap _ (hx.ext0 hm.to) hk (by omega) hr) fun v w hR => ?_
      obtain ⟨p_z, cap_z, g_z, b_z, rfl, ha_z, hmc⟩ := hR
      refine ⟨trivial, ?_⟩
      have hg_z : b_z.real = true → _ := fun hr => (hmc.fresh _ List.mem_cons_self hr).resolve_left id
      replace hm := hm.callN hmc
      have hel := Pl.renc_len r
      have hr9 := Pl.rright_iff.1 hr
      refine rw_p rfl rfl (y_move rfl) ?_
      refine rw_p rfl rfl (y_extract rfl rfl) ?_
      refine rw_p rfl rfl (y_extract rfl rfl) ?_
      refine rw_p rfl rfl (y_assign rfl) ?_
      refine rw_p rfl rfl (y_assign rfl) ?_
      refine rw_done ?_
      refine gn_sq ?_
      refine HW_seq rfl ?_
      refine HW_seq rfl ?_
      refine HW_text (.pure 0 (.act 1 (.pure 2 .done))) (by kernel_rfl) ?_
      refine rw_p rfl rfl (y_loadA (s := 5) (vs := [_, _, _, _, _]) rfl ag25 (hm.nt 1 rfl) rfl) ?_
      refine a_call rfl rfl rfl go8 (C.as (v := .bool true) (r21_right r p cap _ hk) (congrArg Value.bool hr)) fun v w hR => ?_
      obtain ⟨rfl, hE⟩ := hR
      refine ⟨trivial, ?_⟩
      replace hm := hm.ext hE
      refine rw_p rfl rfl (y_not rfl) ?_
      refine rw_done ?_
      refine gn_sq ?_
      refine HW_condF rfl rfl rfl ?_
      refine HW_skip rfl ?_
      refine gn_sq ?_
      refine HW_seq rfl ?_
      refine HW_text (.act 0 (.pure 1 (.pure 2 (.pure 3 (.pure 4 (.pure 5 (.pure 6 (.pure 7 (.act 8 (.act 9 (.pure 10 (.pure 11 (.pure 12 (.pure 13 (.pure 14 (.act 15 (.pure 16 (.pure 17 (.pure 18 (.pure 19 (.pure 20 .done))))))))))))))))))))) (by kernel_rfl) ?_
      refine a_call rfl rfl rfl go9 (law_alive _) fun v w hR => ?_
      obtain ⟨rfl, hE⟩ := hR
      refine ⟨trivial, ?_⟩
      replace hm := hm.ext hE
      refine rw_p rfl rfl (y_move rfl) ?_
      refine rw_p rfl rfl (y_move rfl) ?_
      refine rw_p rfl rfl (y_as (c := true) (y_eq rfl rfl) (by decide +kernel)) ?_
      refine rw_p rfl rfl (y_pickT rfl rfl) ?_
      refine rw_p rfl rfl (y_move rfl) ?_
      refine rw_p rfl rfl (y_move rfl) ?_
      refine rw_p rfl rfl (y_loadA (s := 5) (vs := [_, _, _, _, _]) rfl ag25 (hm.nt 1 rfl) rfl) ?_
      refine a_call rfl rfl rfl go13 (r21_encode r p cap _ (hx.ext0 hm.to) hk (by omega) hr) fun v w hR => ?_
      obtain ⟨p_y, cap_y, g_y, b_y, rfl, ha_y, hmc⟩ := hR
      refine ⟨trivial, ?_⟩
      have hg_y : b_y.real = true → _ := fun hr => (hmc.fresh _ List.mem_cons_self hr).resolve_left id
      replace hm := hm.callN hmc
      refine a_call rfl rfl rfl go17 (C.as (v := .bool true) (eq_b p_z p_y cap_z cap_y (Pl.renc r) (Pl.renc r) _ (ha_z.rd hm 1 rfl) (ha_y.rd hm 0 rfl) (by omega) (by omega)) (congrArg Value.bool (by simp))) fun v w hR => ?_
      obtain ⟨rfl, hE⟩ := hR
      refine ⟨trivial, ?_⟩
      replace hm := hm.ext hE
      refine rw_p rfl rfl (y_pickT rfl rfl) ?_
      refine rw_p rfl rfl (y_move rfl) ?_
      refine rw_p rfl rfl (y_fieldAddr rfl fo25_4) ?_
      refine rw_p rfl rfl (y_load rfl sc23 (hm.nt 2 rfl) rfl) ?_
      refine rw_p rfl rfl (y_len rfl rfl sl23) ?_
      refine a_call rfl rfl rfl go16 (rec_size _ _ (by simp only [Pl.I64]; omega)) fun v w hR => ?_
      obtain ⟨rfl, hE⟩ := hR
      refine ⟨trivial, ?_⟩
      replace hm := hm.ext hE
      refine rw_p rfl rfl (y_move rfl) ?_
      refine rw_p rfl rfl (y_len rfl rfl sl23) ?_
      refine rw_p rfl rfl (y_as (c := true) (y_eq rfl rfl) (by rw [hel]; unfold Pl.rsize; rw [if_neg (by omega)]; simp only [decide_eq_true_eq]; omega)) ?_
      refine rw_p rfl rfl (y_pickT rfl rfl) ?_
      refine rw_p rfl rfl (y_assign rfl) ?_
      refine rw_done ?_
      refine gn_sq ?_
      refine HW_ret rfl ?_
      refine toR (fin hret rfl (.tmp rfl .nil) .one ?_)
      exact ⟨rfl, hm.to⟩

set_option maxHeartbeats 1600000 in
theorem law_inverse (r : Pl.Rc) (p : Option Addr) (cap : Nat) (q : Option Addr) (cq : Nat) (ms : List UInt8) (w0 : World) (hb : SB.ok w0 ⟨p, cap, r.bs⟩) (hk : Pl.okRc r) (hmb : SB.ok w0 ⟨q, cq, ms⟩) : C Try.prog 3 [.agg ⟨rcV r p r.bs.length cap⟩, .slice q ms.length cq] w0 fun v w' => v = .bool true ∧ Ext No w0 w' := by
  have hb1 := hb.le
  have hb2 := hb.max
  simp only at hb1 hb2
  have hx : Rd w0 p (r.bs.flatMap encB) := hb.rd
  have hbs : cap ≠ 0 → ∀ ad, p = some ad → ad.spot = none := hb.spot
  have hmr : Rd w0 q (ms.flatMap encB) := hmb.rd
  have hm1 := hmb.le
  have hm2 := hmb.max
  simp only at hm1 hm2
  refine C_of Try.func3 rfl rfl rfl fun κ hret hnorm => ?_
  have hm := Mem.start w0
  refine HW_seq rfl ?_
  refine HW_text (.act 0 (.pure 1 .done)) (by kernel_rfl) ?_
  refine a_box rfl rfl rfl rfl hm trivial fun m1 w hg_m1 hm hh => ?_
  refine rw_p rfl rfl (y_assign rfl) ?_
  refine rw_done ?_
  refine gn_sq ?_
  refine HW_seq rfl ?_
  refine HW_seq rfl ?_
  refine HW_text (.pure 0 (.pure 1 (.pure 2 (.pure 3 (.pure 4 (.pure 5 (.pure 6 (.pure 7 (.pure 8 (.pure 9 (.pure 10 (.act 11 (.pure 12 (.pure 13 .done)))))))))))))) (by kernel_rfl) ?_
  refine rw_p rfl rfl (y_fieldAddr rfl fo25_4) ?_
  refine rw_p rfl rfl (y_load rfl sc23 (hm.nt 0 rfl) rfl) ?_
  refine rw_p rfl rfl (y_len rfl rfl sl23) ?_
  refine rw_p rfl rfl (y_gt rfl rfl) ?_
  refine rw_p rfl rfl (y_move rfl) ?_
  refine rw_g rfl rfl rfl (fun hc => (y_move rfl)) ?_
  refine rw_g rfl rfl rfl (fun hc => (y_len (gx hc rfl) rfl sl23)) ?_
  refine rw_g rfl rfl rfl (fun hc => (y_gt (gx hc rfl) rfl)) ?_
  refine rw_p rfl rfl (y_or rfl rfl rfl) ?_
  refine rw_p rfl rfl (y_move rfl) ?_
  refine rw_g rfl rfl rfl (fun hc => (y_loadA (s := 5) (vs := [_, _, _, _, _]) rfl ag25 (hm.nt 0 rfl) rfl)) ?_
  refine a_callG rfl rfl rfl (fun hc => (evs_c (gx hc rfl) evs_n)) go8 (fun hc => (r21_right r p cap _ hk)) trivial fun w hE hh => ?_
  replace hm := hm.ext hE
  refine rw_g rfl rfl rfl (fun hc => (y_not (gx hc rfl))) ?_
  refine rw_p rfl rfl (y_or rfl rfl rfl) ?_
  refine rw_done ?_
  refine gn_sq ?_
  refine HW_cond rfl rfl (fun hc0 => ?_) (fun hc0 => ?_)
  ·
    refine HW_seq rfl ?_
    refine HW_text (.act 0 (.pure 1 .done)) (by kernel_rfl) ?_
    refine a_call rfl rfl rfl go9 (law_alive _) fun v w hR => ?_
    obtain ⟨rfl, hE⟩ := hR
    refine ⟨trivial, ?_⟩
    replace hm := hm.ext hE
    refine rw_p rfl rfl (y_assign rfl) ?_
    refine rw_done ?_
    refine gn_sq ?_
    refine HW_ret rfl ?_
    refine gr_sq ?_
    refine toR (fin hret rfl (.tmp rfl .nil) .one ?_)
    exact ⟨rfl, hm.to⟩
  ·
    simp only [Bool.or_eq_false_iff, Bool.not_eq_false', decide_eq_false_iff_not] at hc0
    have hr := hc0.2
    have h300 := hc0.1
    refine HW_skip rfl ?_
    refine gn_sq ?_
    refine HW_seq rfl ?_
    refine HW_text (.pure 0 (.act 1 (.pure 2 (.pure 3 (.pure 4 (.pure 5 (.pure 6 .done))))))) (by kernel_rfl) ?_
    refine rw_p rfl rfl (y_loadA (s := 5) (vs := [_, _, _, _, _]) rfl ag25 (hm.nt 0 rfl) rfl) ?_
    refine a_call rfl rfl rfl go10 (rec_encT r p cap _ (hx.ext0 hm.to) hk (by omega) hr) fun v w hR => ?_
    obtain ⟨p_z, cap_z, g_z, b_z, rfl, ha_z, hmc⟩ := hR
    refine ⟨trivial, ?_⟩
    have hg_z : b_z.real = true → _ := fun hr => (hmc.fresh _ List.mem_cons_self hr).resolve_left id
    replace hm := hm.callN hmc
    have hel := Pl.renc_len r
    have hr9 := Pl.rright_iff.1 hr
    refine rw_p rfl rfl (y_move rfl) ?_
    refine rw_p rfl rfl (y_extract rfl rfl) ?_
    refine rw_p rfl rfl (y_extract rfl rfl) ?_
    refine rw_p rfl rfl (y_assign rfl) ?_
    refine rw_p rfl rfl (y_assign rfl) ?_
    refine rw_done ?_
    refine gn_sq ?_
    refine HW_seq rfl ?_
    refine HW_text (.act 0 (.pure 1 (.act 2 (.pure 3 (.act 4 (.pure 5 .done)))))) (by kernel_rfl) ?_
    refine a_buildSlice (l := []) rfl rfl sl23 z5 rfl rfl rfl rfl rfl rfl rfl hm trivial fun m2 w hg_m2 hm hh => ?_
    refine rw_p rfl rfl (y_move rfl) ?_
    refine a_append rfl rfl rfl rfl rfl rfl sl23 sl23 z5 rfl (oneB _) (ha_z.rd hm 1 rfl) (lenB _) (Acc.row rfl) hm 0 rfl (by omega) (by omega) fun p_o cap_o g_o b_o w ha_o hm => ?_
    refine rw_p rfl rfl (y_move rfl) ?_
    refine a_append rfl rfl rfl rfl rfl rfl sl23 sl23 z5 rfl (oneB ms) (hmr.ext0 hm.to) (lenB ms) ha_o hm 0 rfl (by omega) (by omega) fun p_o cap_o g_o b_o w ha_o hm => ?_
    replace ha_o := ha_o.to (show _ = (Pl.renc r ++ ms).flatMap encB by simp only [List.nil_append, List.flatMap_append])
    have hn9 := ha_o.lenB
    have hn8 : (Pl.renc r ++ ms).length = 44 + r.bs.length + ms.length := by rw [List.length_append, hel]
    rw [hn9] at ha_o
    refine rw_p rfl rfl (y_v (y_assign rfl) (show _ = Value.slice p_o (Pl.renc r ++ ms).length cap_o by rw [hn9])) ?_
    refine rw_done ?_
    refine gn_sq ?_
    refine HW_seq rfl ?_
    refine HW_text (.pure 0 (.act 1 (.pure 2 (.pure 3 (.pure 4 (.act 5 (.act 6 (.pure 7 .done)))))))) (by kernel_rfl) ?_
    refine rw_p rfl rfl (y_move rfl) ?_
    refine a_call rfl rfl rfl go11 (rec_decT r p_o cap_o (Pl.renc r ++ ms) _ (ha_o.rd hm 0 rfl) ha_o.le ha_o.spot (by omega) (Pl.rdec_renc hk hr ms)) fun v w hR => ?_
    obtain ⟨p_t, cap_t, g_t, b_t, al_t, rfl, ha_t, hal_t, hmc⟩ := hR
    refine ⟨trivial, ?_⟩
    replace hm := hm.callN hmc
    refine rw_p rfl rfl (y_move rfl) ?_
    refine rw_p rfl rfl (y_extract rfl rfl) ?_
    refine rw_p rfl rfl (y_extract rfl rfl) ?_
    refine a_alloc rfl rfl z31 hm trivial fun m3 w hg_m3 hm hh => ?_
    refine a_store rfl rfl rfl rfl sz31 rfl hm 0 rfl rfl fun w hm => ?_
    refine rw_p rfl rfl (y_assign rfl) ?_
    refine rw_done ?_
    refine gn_sq ?_
    refine HW_seq rfl ?_
    refine HW_seq rfl ?_
    refine HW_text (.pure 0 (.pure 1 (.pure 2 .done))) (by kernel_rfl) ?_
    refine rw_p rfl rfl (y_move rfl) ?_
    refine rw_p rfl rfl (y_len rfl rfl sl23) ?_
    refine rw_p rfl rfl (y_move rfl) ?_
    refine rw_done ?_
    refine gn_sq ?_
    refine HW_block rfl ?_
    refine HW_loopK (ι := Nat × Blk × List UInt8) rfl (ks := [2, 4, 6, 7, 8, 9, 42]) (.cons rfl (.cons rfl (.cons rfl (.cons rfl (.cons rfl (.cons rfl (.cons rfl .nil))))))) (fun x => [(43, .int .i64 x.1)]) (fun x w => Mem w0 w No [(g_o, x.2.1), (m3, .row 31 (rcV r (slp p_t cap_t 40 1) r.bs.length (cap_t - 40))), (g_t, b_t), (m1, .row 25 (rcV r p r.bs.length cap))] ∧ Acc 5 1 p_o (Pl.renc r ++ ms).length cap_o (x.2.2.flatMap encB) g_o x.2.1 ∧ x.2.2.length = (Pl.renc r ++ ms).length ∧ x.1 ≤ (Pl.renc r ++ ms).length) (fun x => (Pl.renc r ++ ms).length - x.1) (0, b_o, Pl.renc r ++ ms) (⟨(hm.pick [2, 0, 1, 4] rfl), ha_o, rfl, Nat.zero_le _⟩) ⟨rfl, trivial⟩ (fun x w hM => ?_)
    obtain ⟨hm, ha_o, hxl, hxk⟩ := hM
    refine HW_seq rfl ?_
    refine HW_text (.pure 0 .done) (by kernel_rfl) ?_
    refine rw_p rfl rfl (y_lt rfl rfl) ?_
    refine rw_done ?_
    refine gn_sq ?_
    refine HW_seq rfl ?_
    refine HW_cond rfl rfl (fun hc1 => ?_) (fun hc1 => ?_)
    ·
      simp only [decide_eq_true_eq] at hc1
      obtain ⟨y, hy⟩ : ∃ y_, x.2.2[x.1]? = some y_ := ⟨_, List.getElem?_eq_getElem (by omega)⟩
      obtain rfl := ha_o.ptr (by omega)
      refine HW_skip rfl ?_
      refine gn_sq ?_
      refine HW_seq rfl ?_
      refine HW_block rfl ?_
      refine HW_seq rfl ?_
      refine HW_text (.pure 0 (.pure 1 .done)) (by kernel_rfl) ?_
      refine rw_p rfl rfl (y_move rfl) ?_
      refine rw_p rfl rfl (y_assign rfl) ?_
      refine rw_done ?_
      refine gn_sq ?_
      refine HW_text (.pure 0 (.pure 1 (.pure 2 (.pure 3 (.pure 4 (.pure 5 (.act 6 .done))))))) (by kernel_rfl) ?_
      refine rw_p rfl rfl (y_move rfl) ?_
      refine rw_p rfl rfl (y_move rfl) ?_
      refine rw_p rfl rfl (y_index rfl rfl sl23 rfl (by omega) (by omega)) ?_
      refine rw_p rfl rfl (y_el1 rfl sc5 (ha_o.rd hm 0 rfl).nt encB_len hy rfl) ?_
      refine rw_p rfl rfl (y_add rfl rfl (u8inc y)) ?_
      refine rw_p rfl rfl (y_index rfl rfl sl23 rfl (by omega) (by omega)) ?_
      refine a_storeE rfl rfl rfl rfl sz5 rfl rfl ha_o (by omega) hm 0 rfl fun b_o w ha_o hm => ?_
      replace ha_o := ha_o.to (show _ = (x.2.2.set x.1 (y + 1)).flatMap encB from updB _ _ _)
      refine rw_done ?_
      refine gn_bl ?_
      refine gn_sq ?_
      refine HW_text (.pure 0 (.pure 1 .done)) (by kernel_rfl) ?_
      refine rw_p rfl rfl (y_add rfl rfl (i64w (by omega) (by omega))) ?_
      refine rw_p rfl rfl (y_move rfl) ?_
      refine rw_done ?_
      refine next (x.1 + 1, b_o, x.2.2.set x.1 (y + 1)) (by simp only; omega) ⟨(hm.pick [0, 1, 2, 3] rfl), ha_o, by simp [hxl], by simp only; omega⟩ ⟨nx x.1, rfl, rfl, rfl, rfl, rfl, rfl, rfl, trivial⟩
    ·
      simp only [decide_eq_false_iff_not] at hc1
      refine HW_exit rfl ?_
      refine gx_sq (gx_lp ?_)
      refine gx_here ?_
      refine gn_sq ?_
      refine HW_seq rfl ?_
      refine HW_text (.act 0 (.pure 1 (.pure 2 (.pure 3 (.pure 4 (.pure 5 (.pure 6 (.pure 7 (.pure 8 (.pure 9 (.pure 10 (.pure 11 (.act 12 (.pure 13 (.pure 14 .done))))))))))))))) (by kernel_rfl) ?_
      refine a_call rfl rfl rfl go9 (law_alive _) fun v w hR => ?_
      obtain ⟨rfl, hE⟩ := hR
      refine ⟨trivial, ?_⟩
      replace hm := hm.ext hE
      refine rw_p rfl rfl (y_move rfl) ?_
      refine rw_p rfl rfl (y_move rfl) ?_
      refine rw_p rfl rfl (y_as (c := true) (y_eq rfl rfl) (by decide +kernel)) ?_
      refine rw_p rfl rfl (y_pickT rfl rfl) ?_
      refine rw_p rfl rfl (y_move rfl) ?_
      refine rw_p rfl rfl (y_move rfl) ?_
      refine rw_p rfl rfl (y_as (c := true) (y_eq rfl rfl) (by decide +kernel)) ?_
      refine rw_p rfl rfl (y_pickT rfl rfl) ?_
      refine rw_p rfl rfl (y_move rfl) ?_
      refine rw_p rfl rfl (y_loadA (s := 5) (vs := [_, _, _, _, _]) rfl ag31 (hm.nt 1 rfl) rfl) ?_
      refine rw_p rfl rfl (y_loadA (s := 5) (vs := [_, _, _, _, _]) rfl ag25 (hm.nt 3 rfl) rfl) ?_
      refine a_call rfl rfl rfl go12 (C.as (v := .bool true) (r21_same r r (slp p_t cap_t 40 1) p (cap_t - 40) cap _ (by have h9 := (ha_t.rd hm 2 rfl).dropB (l := 40) ha_t.le; rw [hal_t] at h9; exact h9) (hx.ext0 hm.to)) (congrArg Value.bool (Pl.rsame_refl r))) fun v w hR => ?_
      obtain ⟨rfl, hE⟩ := hR
      refine ⟨trivial, ?_⟩
      replace hm := hm.ext hE
      refine rw_p rfl rfl (y_pickT rfl rfl) ?_
      refine rw_p rfl rfl (y_assign rfl) ?_
      refine rw_done ?_
      refine gn_sq ?_
      refine HW_ret rfl ?_
      refine toR (fin hret rfl (.tmp rfl .nil) .one ?_)
      exact ⟨rfl, hm.to⟩

set_option maxHeartbeats 1600000 in
theorem law_spoils (r : Pl.Rc) (p : Option Addr) (cap : Nat) (bit : Int) (w0 : World) (hb : SB.ok w0 ⟨p, cap, r.bs⟩) (hk : Pl.okRc r) (hbit : 0 ≤ bit ∧ bit ≤ 65535) : C Try.prog 4 [.agg ⟨rcV r p r.bs.length cap⟩, .int .u16 bit] w0 fun v w' => v = .bool true ∧ Ext No w0 w' := by
  have hb1 := hb.le
  have hb2 := hb.max
  simp only at hb1 hb2
  have hx : Rd w0 p (r.bs.flatMap encB) := hb.rd
  have hbs : cap ≠ 0 → ∀ ad, p = some ad → ad.spot = none := hb.spot
  refine C_of Try.func4 rfl rfl rfl fun κ hret hnorm => ?_
  have hm := Mem.start w0
  refine HW_seq rfl ?_
  refine HW_text (.act 0 (.pure 1 .done)) (by kernel_rfl) ?_
  refine a_box rfl rfl rfl rfl hm trivial fun m1 w hg_m1 hm hh => ?_
  refine rw_p rfl rfl (y_assign rfl) ?_
  refine rw_done ?_
  refine gn_sq ?_
  refine HW_seq rfl ?_
  refine HW_seq rfl ?_
  refine HW_text (.pure 0 (.pure 1 (.pure 2 (.pure 3 (.pure 4 (.pure 5 (.act 6 (.pure 7 (.pure 8 .done))))))))) (by kernel_rfl) ?_
  refine rw_p rfl rfl (y_fieldAddr rfl fo25_4) ?_
  refine rw_p rfl rfl (y_load rfl sc23 (hm.nt 0 rfl) rfl) ?_
  refine rw_p rfl rfl (y_len rfl rfl sl23) ?_
  refine rw_p rfl rfl (y_gt rfl rfl) ?_
  refine rw_p rfl rfl (y_move rfl) ?_
  refine rw_g rfl rfl rfl (fun hc => (y_loadA (s := 5) (vs := [_, _, _, _, _]) rfl ag25 (hm.nt 0 rfl) rfl)) ?_
  refine a_callG rfl rfl rfl (fun hc => (evs_c (gx hc rfl) evs_n)) go8 (fun hc => (r21_right r p cap _ hk)) trivial fun w hE hh => ?_
  replace hm := hm.ext hE
  refine rw_g rfl rfl rfl (fun hc => (y_not (gx hc rfl))) ?_
  refine rw_p rfl rfl (y_or rfl rfl rfl) ?_
  refine rw_done ?_
  refine gn_sq ?_
  refine HW_cond rfl rfl (fun hc0 => ?_) (fun hc0 => ?_)
  ·
    refine HW_seq rfl ?_
    refine HW_text (.act 0 (.pure 1 .done)) (by kernel_rfl) ?_
    refine a_call rfl rfl rfl go9 (law_alive _) fun v w hR => ?_
    obtain ⟨rfl, hE⟩ := hR
    refine ⟨trivial, ?_⟩
    replace hm := hm.ext hE
    refine rw_p rfl rfl (y_assign rfl) ?_
    refine rw_done ?_
    refine gn_sq ?_
    refine HW_ret rfl ?_
    refine gr_sq ?_
    refine toR (fin hret rfl (.tmp rfl .nil) .one ?_)
    exact ⟨rfl, hm.to⟩
  ·
    simp only [Bool.or_eq_false_iff, Bool.not_eq_false', decide_eq_false_iff_not] at hc0
    have hr := hc0.2
    have h200 := hc0.1
    have hel := Pl.renc_len r
    have hr9 := Pl.rright_iff.1 hr
    refine HW_skip rfl ?_
    refine gn_sq ?_
    refine HW_seq rfl ?_
    refine HW_text (.pure 0 (.act 1 (.pure 2 .done))) (by kernel_rfl) ?_
    refine rw_p rfl rfl (y_loadA (s := 5) (vs := [_, _, _, _, _]) rfl ag25 (hm.nt 0 rfl) rfl) ?_
    refine a_call rfl rfl rfl go13 (r21_encode r p cap _ (hx.ext0 hm.to) hk (by omega) hr) fun v w hR => ?_
    obtain ⟨p_z, cap_z, g_z, b_z, rfl, ha_z, hmc⟩ := hR
    refine ⟨trivial, ?_⟩
    have hg_z : b_z.real = true → _ := fun hr => (hmc.fresh _ List.mem_cons_self hr).resolve_left id
    replace hm := hm.callN hmc
    obtain ⟨N, hN⟩ : ∃ N : Nat, (Pl.renc r).length = N := ⟨_, rfl⟩
    obtain ⟨ii, hii, hil⟩ : ∃ ii : Nat, bit.tmod (8 * (N : Int)) = (ii : Int) ∧ ii < 8 * N := by
      have h1 := Int.tmod_eq_emod_of_nonneg (b := 8 * (N : Int)) hbit.1
      have h2 := Int.emod_nonneg bit (show 8 * (N : Int) ≠ 0 by omega)
      have h3 := Int.emod_lt_of_pos bit (show (0 : Int) < 8 * (N : Int) by omega)
      exact ⟨(bit % (8 * (N : Int))).toNat, by omega, by omega⟩
    obtain ⟨d, hd⟩ : ∃ y_, (Pl.renc r)[ii / 8]? = some y_ := ⟨_, List.getElem?_eq_getElem (by omega)⟩
    have hdm : (ii : Int).tmod 8 = ((ii % 8 : Nat) : Int) := rfl
    have hdq : (ii : Int).tdiv 8 = ((ii / 8 : Nat) : Int) := rfl
    refine rw_p rfl rfl (y_assign rfl) ?_
    refine rw_done ?_
    refine gn_sq ?_
    refine HW_seq rfl ?_
    refine HW_text (.pure 0 (.pure 1 (.pure 2 (.pure 3 (.pure 4 (.pure 5 (.pure 6 .done))))))) (by kernel_rfl) ?_
    refine rw_p rfl rfl (y_move rfl) ?_
    refine rw_p rfl rfl (y_conv rfl is36 it3 (i64w (by omega) (by omega))) ?_
    refine rw_p rfl rfl (y_move rfl) ?_
    refine rw_p rfl rfl (y_len rfl rfl sl23) ?_
    refine rw_p rfl rfl (y_mul rfl rfl ((i64w (by omega) (by omega)).trans (by rw [hN] : 8 * (((Pl.renc r).length : Nat) : Int) = 8 * (N : Int)))) ?_
    refine rw_p rfl rfl (y_v (y_rem rfl rfl (by omega) rfl) (show _ = Value.int .i64 (ii : Int) by rw [hii])) ?_
    refine rw_p rfl rfl (y_assign rfl) ?_
    refine rw_done ?_
    refine gn_sq ?_
    refine HW_seq rfl ?_
    refine HW_seq rfl ?_
    refine HW_text (.pure 0 (.pure 1 (.pure 2 (.pure 3 (.pure 4 (.pure 5 (.pure 6 (.pure 7 .done)))))))) (by kernel_rfl) ?_
    refine rw_p rfl rfl (y_move rfl) ?_
    refine rw_p rfl rfl (y_quo rfl rfl (by omega) ((i64w (by omega) (by omega)).trans hdq)) ?_
    refine rw_p rfl rfl (y_ge rfl rfl) ?_
    refine rw_p rfl rfl (y_move rfl) ?_
    refine rw_g rfl rfl rfl (fun hc => (y_move rfl)) ?_
    refine rw_g rfl rfl rfl (fun hc => (y_quo (gx hc rfl) rfl (by omega) ((i64w (by omega) (by omega)).trans hdq))) ?_
    refine rw_g rfl rfl rfl (fun hc => (y_lt (gx hc rfl) rfl)) ?_
    refine rw_p rfl rfl (y_and rfl rfl rfl) ?_
    refine rw_done ?_
    refine gn_sq ?_
    refine HW_cond rfl rfl (fun hc1 => ?_) (fun hc1 => ?_)
    ·
      refine HW_seq rfl ?_
      refine HW_text (.act 0 (.pure 1 .done)) (by kernel_rfl) ?_
      refine a_call rfl rfl rfl go9 (law_alive _) fun v w hR => ?_
      obtain ⟨rfl, hE⟩ := hR
      refine ⟨trivial, ?_⟩
      replace hm := hm.ext hE
      refine rw_p rfl rfl (y_assign rfl) ?_
      refine rw_done ?_
      refine gn_sq ?_
      refine HW_ret rfl ?_
      refine gr_sq ?_
      refine toR (fin hret rfl (.tmp rfl .nil) .one ?_)
      exact ⟨rfl, hm.to⟩
    ·
      simp only [Bool.and_eq_false_iff, decide_eq_false_iff_not] at hc1
      have hk36 : ¬ (36 ≤ ii / 8 ∧ ii / 8 < 40) := by omega
      have hxs := Pl.rdec_spoiled (c := d ^^^ UInt8.ofNat (2 ^ (ii % 8))) hk hr hd (b_flip (by omega)) hk36
      have hxm := Pl.rdec_short (m := ii / 8) hk hr (by omega)
      have hso := Pl.sum_spoiled (u := Pl.rbody r) (c := d ^^^ UInt8.ofNat (2 ^ (ii % 8))) hd (b_flip (by omega))
      refine HW_skip rfl ?_
      refine gn_sq ?_
      refine HW_seq rfl ?_
      refine HW_text (.act 0 (.pure 1 (.act 2 (.pure 3 .done)))) (by kernel_rfl) ?_
      refine a_buildSlice (l := []) rfl rfl sl23 z5 rfl rfl rfl rfl rfl rfl rfl hm trivial fun m2 w hg_m2 hm hh => ?_
      refine rw_p rfl rfl (y_move rfl) ?_
      refine a_append rfl rfl rfl rfl rfl rfl sl23 sl23 z5 rfl (oneB _) (ha_z.rd hm 1 rfl) (lenB _) (Acc.row rfl) hm 0 rfl (by omega) (by omega) fun p_o cap_o g_o b_o w ha_o hm => ?_
      replace ha_o := ha_o.to (List.nil_append _)
      have hn9 := ha_o.lenB
      rw [hn9] at ha_o
      obtain rfl := ha_o.ptr (by omega)
      refine rw_p rfl rfl (y_v (y_assign rfl) (show _ = Value.slice (some ⟨g_o, 0, none⟩) (Pl.renc r).length cap_o by rw [Nat.zero_add])) ?_
      refine rw_done ?_
      refine gn_sq ?_
      refine HW_seq rfl ?_
      refine HW_draw (.pure 0 (.pure 1 (.pure 2 (.pure 3 (.pure 4 (.pure 5 (.pure 6 (.pure 7 (.cut (.pure 8 (.pure 9 (.act 10 .done)))))))))))) No mix (by kernel_rfl) hm fun w hw hm0 hh => ?_
      have hm := hm0
      refine rw_p rfl rfl (y_move rfl) ?_
      refine rw_p rfl rfl (y_move rfl) ?_
      refine rw_p rfl rfl (y_quo rfl rfl (by omega) ((i64w (by omega) (by omega)).trans hdq)) ?_
      refine rw_p rfl rfl (y_index rfl rfl sl23 rfl (by omega) (by omega)) ?_
      refine rw_p rfl rfl (y_el1 rfl sc5 (ha_o.rd hm0 0 rfl).nd encB_len hd rfl) ?_
      refine rw_p rfl rfl (y_move rfl) ?_
      refine rw_p rfl rfl (y_rem rfl rfl (by omega) hdm) ?_
      refine rw_p rfl rfl (y_shl rfl rfl (by omega) (b_bit (by omega))) ?_
      refine a_cut ?_
      refine rw_p rfl rfl (y_xor_ rfl rfl b_xor) ?_
      refine rw_p rfl rfl (y_index rfl rfl sl23 rfl (by omega) (by omega)) ?_
      refine a_storeE rfl rfl rfl rfl sz5 rfl rfl ha_o (by omega) hm 0 rfl fun b_o w ha_o hm => ?_
      replace ha_o := ha_o.to (show _ = ((Pl.renc r).set (ii / 8) (d ^^^ UInt8.ofNat (2 ^ (ii % 8)))).flatMap encB from updB _ _ _)
      have hsl : ((Pl.renc r).set (ii / 8) (d ^^^ UInt8.ofNat (2 ^ (ii % 8)))).length = (Pl.renc r).length := List.length_set
      rw [← hsl] at ha_o
      refine rw_done ?_
      refine gn_sq ?_
      refine HW_seq rfl ?_
      refine HW_text (.pure 0 (.act 1 (.pure 2 (.pure 3 (.pure 4 (.act 5 (.act 6 (.pure 7 .done)))))))) (by kernel_rfl) ?_
      refine rw_p rfl rfl (y_move rfl) ?_
      refine a_call rfl rfl rfl go11 (C.eqv (rec_decF (some ⟨g_o, 0, none⟩) cap_o ((Pl.renc r).set (ii / 8) (d ^^^ UInt8.ofNat (2 ^ (ii % 8)))) _ (ha_o.rd hm 0 rfl) ha_o.le ha_o.spot (by omega) hxs) (by rw [hsl])) fun v w hR => ?_
      obtain ⟨⟨q_, c_, rfl⟩, hE⟩ := hR
      refine ⟨trivial, ?_⟩
      replace hm := hm.ext hE
      refine rw_p rfl rfl (y_move rfl) ?_
      refine rw_p rfl rfl (y_extract rfl rfl) ?_
      refine rw_p rfl rfl (y_extract rfl rfl) ?_
      refine a_alloc rfl rfl z31 hm trivial fun m3 w hg_m3 hm hh => ?_
      refine a_store rfl rfl rfl rfl sz31 rfl hm 0 rfl rfl fun w hm => ?_
      refine rw_p rfl rfl (y_assign rfl) ?_
      refine rw_done ?_
      refine gn_sq ?_
      refine HW_seq rfl ?_
      refine HW_text (.pure 0 (.pure 1 (.pure 2 (.pure 3 (.act 4 (.pure 5 (.pure 6 (.pure 7 (.act 8 (.act 9 (.pure 10 .done))))))))))) (by kernel_rfl) ?_
      refine rw_p rfl rfl (y_move rfl) ?_
      refine rw_p rfl rfl (y_move rfl) ?_
      refine rw_p rfl rfl (y_quo rfl rfl (by omega) ((i64w (by omega) (by omega)).trans hdq)) ?_
      refine rw_p rfl rfl (y_v (y_slice (ln := 0) (hn := (ii / 8)) rfl sl23 rfl ⟨_, rfl⟩ (by omega) (by have := ha_z.le; omega) (fun h => ha_z.spot (by omega))) (show _ = Value.slice (slp p_z cap_z 0 1) ((Pl.renc r).take (ii / 8)).length cap_z by rw [List.length_take, Nat.min_eq_left (by omega)]; rfl)) ?_
      refine a_call rfl rfl rfl go11 (rec_decF (slp p_z cap_z 0 1) cap_z ((Pl.renc r).take (ii / 8)) _ ((ha_z.rd hm 2 rfl).takeS ha_z.le) (by rw [List.length_take]; have := ha_z.le; omega) (fun h ad e => slp_spot0 ha_z.spot h e) (by rw [List.length_take]; omega) hxm) fun v w hR => ?_
      obtain ⟨⟨q_, c_, rfl⟩, hE⟩ := hR
      refine ⟨trivial, ?_⟩
      replace hm := hm.ext hE
      refine rw_p rfl rfl (y_move rfl) ?_
      refine rw_p rfl rfl (y_extract rfl rfl) ?_
      refine rw_p rfl rfl (y_extract rfl rfl) ?_
      refine a_alloc rfl rfl z31 hm trivial fun m4 w hg_m4 hm hh => ?_
      refine a_store rfl rfl rfl rfl sz31 rfl hm 0 rfl rfl fun w hm => ?_
      refine rw_p rfl rfl (y_assign rfl) ?_
      refine rw_done ?_
      refine gn_sq ?_
      refine HW_seq rfl ?_
      refine HW_text (.act 0 (.pure 1 (.pure 2 (.pure 3 (.pure 4 (.pure 5 (.pure 6 (.pure 7 (.pure 8 (.pure 9 (.pure 10 (.act 11 (.pure 12 (.pure 13 (.pure 14 .done))))))))))))))) (by kernel_rfl) ?_
      refine a_call rfl rfl rfl go9 (law_alive _) fun v w hR => ?_
      obtain ⟨rfl, hE⟩ := hR
      refine ⟨trivial, ?_⟩
      replace hm := hm.ext hE
      refine rw_p rfl rfl (y_move rfl) ?_
      refine rw_p rfl rfl (y_move rfl) ?_
      refine rw_p rfl rfl (y_as (c := true) (y_eq rfl rfl) (by decide +kernel)) ?_
      refine rw_p rfl rfl (y_pickT rfl rfl) ?_
      refine rw_p rfl rfl (y_move rfl) ?_
      refine rw_p rfl rfl (y_move rfl) ?_
      refine rw_p rfl rfl (y_as (c := true) (y_eq rfl rfl) (by decide +kernel)) ?_
      refine rw_p rfl rfl (y_pickT rfl rfl) ?_
      refine rw_p rfl rfl (y_move rfl) ?_
      refine rw_p rfl rfl (y_move rfl) ?_
      refine a_call rfl rfl rfl go14 (C.eqv (r3_open (some ⟨g_o, 0, none⟩) cap_o ((Pl.renc r).set (ii / 8) (d ^^^ UInt8.ofNat (2 ^ (ii % 8)))) _ (ha_o.rd hm 2 rfl) ha_o.le ha_o.spot (by omega)) (by rw [hsl])) fun v w hR => ?_
      obtain ⟨rfl, hE⟩ := hR
      refine ⟨trivial, ?_⟩
      replace hm := hm.ext hE
      refine rw_p rfl rfl (y_as (c := true) (y_lt rfl rfl) (by rw [if_neg (by intro h9; exact absurd (hso.symm.trans h9) (by simp))]; rfl)) ?_
      refine rw_p rfl rfl (y_pickT rfl rfl) ?_
      refine rw_p rfl rfl (y_assign rfl) ?_
      refine rw_done ?_
      refine gn_sq ?_
      refine HW_ret rfl ?_
      refine toR (fin hret rfl (.tmp rfl .nil) .one ?_)
      exact ⟨rfl, hm.to⟩

end Go.Proofs.Ytlgkhajmjgepaaa
