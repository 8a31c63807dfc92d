/- Contracts of functions of the program: what each returns. Conditions: the hypotheses of each theorem. -/
import Derived.Test.YtpandemmaoeioaaChkB
set_option linter.unusedVariables false
set_option linter.unusedSimpArgs false
namespace Go.Proofs.Ytpandemmaoeioaa
open Go Go.Cx



set_option maxHeartbeats 2000000 in
theorem s_execute (p : Option Addr) (cap : Nat) (f : List UInt8) (q : Option Addr) (cq : Nat) (cs : List CmdV) (w0 : World) (hf : Rd w0 p (f.flatMap encB)) (hq : Rd w0 q (cs.flatMap encC)) (hcs : ∀ c ∈ cs, Pl.ccheck c.cm = 0 ∧ Rd w0 c.d.p (c.d.bs.flatMap encB)) (hfl : f.length ≤ 140737488355328) (hl : cs.length ≤ 4611686018427387903) : C Try.prog 45 [.slice p f.length cap, .slice q cs.length cq] w0 fun v w' => ∃ (n c g : Nat) (b : Blk) (qa : Option Addr), v = .tuple ⟨[.slice qa n c, .bool (Pl.exs f (cs.map CmdV.cm)).isSome]⟩ ∧ Acc 5 1 qa n c (((Pl.exs f (cs.map CmdV.cm)).getD []).flatMap encB) g b ∧ n = ((Pl.exs f (cs.map CmdV.cm)).getD []).length ∧ Mem w0 w' No [(g, b)] := by
  refine C_of Try.func45 rfl rfl rfl fun κ hret hnorm => ?_
  have hm := Mem.start w0
  refine HW_seq rfl ?_
  refine HW_text (.pure 0 (.pure 1 .done)) (by kernel_rfl) ?_
  refine rw_p rfl rfl (y_assign rfl) ?_
  refine rw_p rfl rfl (y_assign rfl) ?_
  refine rw_done ?_
  refine gn_sq ?_
  refine HW_seq rfl ?_
  refine HW_text (.pure 0 (.pure 1 (.pure 2 (.act 3 (.act 4 .done))))) (by kernel_rfl) ?_
  refine rw_p rfl rfl (y_move rfl) ?_
  refine rw_p rfl rfl (y_len rfl rfl sl32) ?_
  refine rw_p rfl rfl (y_build (cs := [_, _]) z67 ft67 rfl rfl rfl rfl rfl) ?_
  refine a_alloc rfl rfl z67 hm trivial fun m1 w hg_m1 hm hh => ?_
  refine a_store rfl rfl rfl rfl sz67 rfl hm 0 rfl rfl fun w hm => ?_
  refine rw_done ?_
  refine gn_sq ?_
  refine HW_seq rfl ?_
  refine HW_seq rfl ?_
  refine HW_text (.pure 0 (.pure 1 (.pure 2 .done))) (by kernel_rfl) ?_
  refine rw_p rfl rfl (y_move rfl) ?_
  refine rw_p rfl rfl (y_len rfl rfl sl22) ?_
  refine rw_p rfl rfl (y_move rfl) ?_
  refine rw_done ?_
  refine gn_sq ?_
  refine HW_block rfl ?_
  refine HW_loopK (ι := Nat) rfl (ks := [0, 1, 6, 19, 20]) (.cons rfl (.cons rfl (.cons rfl (.cons rfl (.cons rfl .nil))))) (fun k => [(21, .int .i64 k)]) (fun k w => Mem w0 w No [(m1, .row 67 [.int .i64 0, .int .i64 f.length])] ∧ k ≤ cs.length ∧ ∀ (j : Nat) c, j < k → cs[j]? = some c → Pl.cfits f.length c.cm = true) (fun k => cs.length - k) 0 (⟨(hm.pick [0] rfl), Nat.zero_le _, fun _ _ h => absurd h (Nat.not_lt_zero _)⟩) ⟨rfl, trivial⟩ (fun k w hM => ?_)
  obtain ⟨hm, hk, hno⟩ := hM
  refine HW_seq rfl ?_
  refine HW_text (.pure 0 .done) (by kernel_rfl) ?_
  refine rw_p rfl rfl (y_lt rfl rfl) ?_
  refine rw_done ?_
  refine gn_sq ?_
  refine HW_seq rfl ?_
  refine HW_cond rfl rfl (fun hc0 => ?_) (fun hc0 => ?_)
  ·
    simp only [decide_eq_true_eq] at hc0
    obtain ⟨c, hi⟩ : ∃ y_, cs[k]? = some y_ := ⟨_, List.getElem?_eq_getElem (by omega)⟩
    obtain ⟨qb, qo, rfl⟩ := hq.atI encC_len (by decide) hi
    obtain ⟨hc, hcr⟩ := hcs c (List.mem_of_getElem? hi)
    have hck := Pl.ccheck_ok hc
    have k1 : c.cm.k = c.k := rfl
    have k2 : c.cm.to = c.to := rfl
    have k3 : c.cm.fr = c.fr := rfl
    have k4 : c.cm.ln = c.ln := rfl
    have k5 : c.cm.bs = c.d.bs := rfl
    rw [k1, k2, k3, k4, k5] at hck
    refine HW_skip rfl ?_
    refine gn_sq ?_
    refine HW_seq rfl ?_
    refine HW_block rfl ?_
    refine HW_seq rfl ?_
    refine HW_text (.pure 0 (.pure 1 (.act 2 (.act 3 .done)))) (by kernel_rfl) ?_
    refine rw_p rfl rfl (y_index rfl rfl sl22 rfl (by omega) (by omega)) ?_
    refine rw_p rfl rfl (y_elA rfl ag34 (hq.ext0 hm.to).nt encC_len hi) ?_
    refine a_alloc rfl rfl z34 hm trivial fun m2 w hg_m2 hm hh => ?_
    refine a_store rfl rfl rfl rfl sz34 rfl hm 0 rfl rfl fun w hm => ?_
    refine rw_done ?_
    refine gn_sq ?_
    refine HW_seq rfl ?_
    refine HW_text (.pure 0 (.act 1 (.pure 2 (.pure 3 (.pure 4 (.act 5 (.act 6 (.pure 7 .done)))))))) (by kernel_rfl) ?_
    refine rw_p rfl rfl (y_loadA (s := 5) (vs := [_, _, _, _, _]) rfl ag34 (hm.nt 0 rfl) rfl) ?_
    refine a_call rfl rfl rfl go41 (c_source c.cm c.d.p c.d.cap _) fun v w hR => ?_
    obtain ⟨rfl, hE⟩ := hR
    refine ⟨trivial, ?_⟩
    replace hm := hm.ext hE
    refine rw_p rfl rfl (y_move rfl) ?_
    refine rw_p rfl rfl (y_extract rfl rfl) ?_
    refine rw_p rfl rfl (y_extract rfl rfl) ?_
    refine a_alloc rfl rfl z67 hm trivial fun m3 w hg_m3 hm hh => ?_
    refine a_store rfl rfl rfl rfl sz67 rfl hm 0 rfl rfl fun w hm => ?_
    refine rw_p rfl rfl (y_assign rfl) ?_
    refine rw_done ?_
    refine gn_sq ?_
    refine HW_seq rfl ?_
    by_cases hwi : c.to + Pl.clen c.cm ≤ f.length
    by_cases hk1 : c.k = 1
    rotate_left
    rotate_left
    ·
      have hbad : Pl.cfits f.length c.cm = false := cfits_not (.inl hwi)
      refine HW_draw (.pure 0 (.pure 1 (.act 2 (.act 3 (.act 4 (.pure 5 (.pure 6 (.pure 7 (.pure 8 (.pure 9 (.pure 10 (.act 11 (.cut (.act 12 (.pure 13 (.pure 14 (.pure 15 .done))))))))))))))))) No mix (by kernel_rfl) hm fun w hw hm0 hh => ?_
      have hm := hm0
      refine rw_p rfl rfl (y_loadA (s := 2) (vs := [_, _]) rfl ag67 (hm0.nd 2 rfl id) rfl) ?_
      refine rw_p rfl rfl (y_loadA (s := 5) (vs := [_, _, _, _, _]) rfl ag34 (hm0.nd 1 rfl id) rfl) ?_
      refine a_call rfl rfl rfl go30 (c_target c.cm c.d.p c.d.cap _) fun v w hR => ?_
      obtain ⟨rfl, hE⟩ := hR
      refine ⟨hh.ext hE, ?_⟩
      replace hm := hm.ext hE
      replace hh := hh.ext hE
      refine a_buildSlice (l := [_, _]) rfl rfl sl65 z67 rfl rfl rfl rfl rfl rfl rfl hm hh fun m4 w hg_m4 hm hh => ?_
      refine a_call rfl rfl rfl go57 (ext_contains 0 f.length _ 1 [(c.cm.to, Pl.clen c.cm)] _ (by simp only [Pl.I64]; omega) (Rd.row0 (hm.get (k := 0) rfl)) (by simp) (by simp only [List.mem_singleton]; rintro _ rfl; simp only [Pl.I64]; omega)) fun v w hR => ?_
      obtain ⟨rfl, hE⟩ := hR
      refine ⟨hh.ext hE, ?_⟩
      replace hm := hm.ext hE
      replace hh := hh.ext hE
      refine rw_p rfl rfl (y_not rfl) ?_
      refine rw_p rfl rfl (y_as (c := true) (y_move rfl) (by simp [Pl.within]; omega)) ?_
      refine rw_gf rfl rfl (by decide) rfl ?_
      refine rw_gf rfl rfl (by decide) rfl ?_
      refine rw_gu rfl rfl rfl ?_
      refine rw_gu rfl rfl rfl ?_
      refine a_gu rfl rfl rfl hh ?_
      refine a_cut ?_
      refine a_gu rfl rfl rfl trivial ?_
      refine rw_gu rfl rfl rfl ?_
      refine rw_gf rfl rfl (by decide) rfl ?_
      refine rw_p rfl rfl (y_pickT rfl rfl) ?_
      refine rw_done ?_
      refine gn_sq ?_
      refine HW_condT rfl rfl rfl ?_
      refine HW_seq rfl ?_
      refine HW_text (.pure 0 (.pure 1 .done)) (by kernel_rfl) ?_
      refine rw_p rfl rfl (y_assign rfl) ?_
      refine rw_p rfl rfl (y_assign rfl) ?_
      refine rw_done ?_
      refine gn_sq ?_
      refine HW_ret rfl ?_
      refine gr_bl (gr_sq (gr_lp (gr_bl (gr_sq ?_))))
      refine toR (fin hret rfl (.tmp rfl (.tmp rfl .nil)) .more ?_)
      exact ⟨0, 0, 0, .gap, none, by rw [exs_none hi hbad]; rfl, by rw [exs_none hi hbad]; exact .nil _ _ _ _, by rw [exs_none hi hbad]; rfl, (hm.drop (List.nil_sublist _)).gapIn⟩
    ·
      have hfk : (c.k = 1 ∧ Pl.csrc c.cm = (c.fr, c.ln)) := ⟨hk1, by unfold Pl.csrc; rw [k1, if_pos hk1, k3, k4]⟩
      refine HW_draw (.pure 0 (.pure 1 (.act 2 (.act 3 (.act 4 (.pure 5 (.pure 6 (.pure 7 (.pure 8 (.pure 9 (.pure 10 (.act 11 (.cut (.act 12 (.pure 13 (.pure 14 (.pure 15 .done))))))))))))))))) No mix (by kernel_rfl) hm fun w hw hm0 hh => ?_
      have hm := hm0
      refine rw_p rfl rfl (y_loadA (s := 2) (vs := [_, _]) rfl ag67 (hm0.nd 2 rfl id) rfl) ?_
      refine rw_p rfl rfl (y_loadA (s := 5) (vs := [_, _, _, _, _]) rfl ag34 (hm0.nd 1 rfl id) rfl) ?_
      refine a_call rfl rfl rfl go30 (c_target c.cm c.d.p c.d.cap _) fun v w hR => ?_
      obtain ⟨rfl, hE⟩ := hR
      refine ⟨hh.ext hE, ?_⟩
      replace hm := hm.ext hE
      replace hh := hh.ext hE
      refine a_buildSlice (l := [_, _]) rfl rfl sl65 z67 rfl rfl rfl rfl rfl rfl rfl hm hh fun m4 w hg_m4 hm hh => ?_
      refine a_call rfl rfl rfl go57 (ext_contains 0 f.length _ 1 [(c.cm.to, Pl.clen c.cm)] _ (by simp only [Pl.I64]; omega) (Rd.row0 (hm.get (k := 0) rfl)) (by simp) (by simp only [List.mem_singleton]; rintro _ rfl; simp only [Pl.I64]; omega)) fun v w hR => ?_
      obtain ⟨rfl, hE⟩ := hR
      refine ⟨hh.ext hE, ?_⟩
      replace hm := hm.ext hE
      replace hh := hh.ext hE
      refine rw_p rfl rfl (y_not rfl) ?_
      refine rw_p rfl rfl (y_as (c := false) (y_move rfl) (by simp [Pl.within]; omega)) ?_
      refine rw_p rfl rfl (y_move rfl) ?_
      refine rw_p rfl rfl (y_as (c := true) (y_move rfl) (by simp [k1, hk1])) ?_
      refine rw_p rfl rfl (y_loadA (s := 2) (vs := [_, _]) rfl ag67 (hm0.nd 2 rfl id) rfl) ?_
      refine rw_p rfl rfl (y_loadA (s := 2) (vs := [_, _]) rfl ag67 (hm0.nd 0 rfl id) rfl) ?_
      refine a_buildSlice (l := [_, _]) rfl rfl sl65 z67 rfl rfl rfl rfl rfl rfl rfl hm hh fun m5 w hg_m5 hm hh => ?_
      refine a_cut ?_
      refine a_call rfl rfl rfl go57 (ext_contains 0 f.length _ 1 [Pl.csrc c.cm] _ (by simp only [Pl.I64]; omega) (Rd.row0 (hm.get (k := 0) rfl)) (by simp) (by simp only [List.mem_singleton]; rintro _ rfl; rw [hfk.2]; simp only [Pl.I64]; omega)) fun v w hR => ?_
      obtain ⟨rfl, hE⟩ := hR
      refine ⟨trivial, ?_⟩
      replace hm := hm.ext hE
      refine rw_p rfl rfl (y_not rfl) ?_
      refine rw_p rfl rfl (y_pickT rfl rfl) ?_
      refine rw_p rfl rfl (y_pickF rfl rfl) ?_
      refine rw_done ?_
      refine gn_sq ?_
      refine HW_cond rfl rfl (fun hc1 => ?_) (fun hc1 => ?_)
      ·
        have hbad : Pl.cfits f.length c.cm = false := cfits_not (.inr ⟨hk1, by rw [k3, k4]; simp [hfk.2, Pl.within] at hc1; omega⟩)
        refine HW_seq rfl ?_
        refine HW_text (.pure 0 (.pure 1 .done)) (by kernel_rfl) ?_
        refine rw_p rfl rfl (y_assign rfl) ?_
        refine rw_p rfl rfl (y_assign rfl) ?_
        refine rw_done ?_
        refine gn_sq ?_
        refine HW_ret rfl ?_
        refine gr_bl (gr_sq (gr_lp (gr_bl (gr_sq ?_))))
        refine toR (fin hret rfl (.tmp rfl (.tmp rfl .nil)) .more ?_)
        exact ⟨0, 0, 0, .gap, none, by rw [exs_none hi hbad]; rfl, by rw [exs_none hi hbad]; exact .nil _ _ _ _, by rw [exs_none hi hbad]; rfl, (hm.drop (List.nil_sublist _)).gapIn⟩
      ·
        have hcf : Pl.cfits f.length c.cm = true := cfits_of hwi (fun _ => by rw [k3, k4]; simp [hfk.2, Pl.within] at hc1; omega)
        refine HW_skip rfl ?_
        refine gn_bl ?_
        refine gn_sq ?_
        refine HW_text (.pure 0 (.pure 1 .done)) (by kernel_rfl) ?_
        refine rw_p rfl rfl (y_add rfl rfl (i64w (by omega) (by omega))) ?_
        refine rw_p rfl rfl (y_move rfl) ?_
        refine rw_done ?_
        refine next (k + 1) (by omega) ⟨(hm.pick [4] rfl), by omega, fun j d hj hd => ?_⟩ ⟨nx k, rfl, rfl, rfl, rfl, rfl, trivial⟩
        rcases Nat.lt_or_ge j k with h | h
        · exact hno j d h hd
        · obtain rfl : j = k := by omega
          rw [hi] at hd; cases hd; exact hcf
    ·
      have hcf : Pl.cfits f.length c.cm = true := cfits_of hwi (fun h => absurd h hk1)
      refine HW_draw (.pure 0 (.pure 1 (.act 2 (.act 3 (.act 4 (.pure 5 (.pure 6 (.pure 7 (.pure 8 (.pure 9 (.pure 10 (.act 11 (.cut (.act 12 (.pure 13 (.pure 14 (.pure 15 .done))))))))))))))))) No mix (by kernel_rfl) hm fun w hw hm0 hh => ?_
      have hm := hm0
      refine rw_p rfl rfl (y_loadA (s := 2) (vs := [_, _]) rfl ag67 (hm0.nd 2 rfl id) rfl) ?_
      refine rw_p rfl rfl (y_loadA (s := 5) (vs := [_, _, _, _, _]) rfl ag34 (hm0.nd 1 rfl id) rfl) ?_
      refine a_call rfl rfl rfl go30 (c_target c.cm c.d.p c.d.cap _) fun v w hR => ?_
      obtain ⟨rfl, hE⟩ := hR
      refine ⟨hh.ext hE, ?_⟩
      replace hm := hm.ext hE
      replace hh := hh.ext hE
      refine a_buildSlice (l := [_, _]) rfl rfl sl65 z67 rfl rfl rfl rfl rfl rfl rfl hm hh fun m4 w hg_m4 hm hh => ?_
      refine a_call rfl rfl rfl go57 (ext_contains 0 f.length _ 1 [(c.cm.to, Pl.clen c.cm)] _ (by simp only [Pl.I64]; omega) (Rd.row0 (hm.get (k := 0) rfl)) (by simp) (by simp only [List.mem_singleton]; rintro _ rfl; simp only [Pl.I64]; omega)) fun v w hR => ?_
      obtain ⟨rfl, hE⟩ := hR
      refine ⟨hh.ext hE, ?_⟩
      replace hm := hm.ext hE
      replace hh := hh.ext hE
      refine rw_p rfl rfl (y_not rfl) ?_
      refine rw_p rfl rfl (y_as (c := false) (y_move rfl) (by simp [Pl.within]; omega)) ?_
      refine rw_p rfl rfl (y_move rfl) ?_
      refine rw_p rfl rfl (y_as (c := false) (y_move rfl) (by simp [k1, hk1])) ?_
      refine rw_gf rfl rfl (by decide) rfl ?_
      refine rw_gf rfl rfl (by decide) rfl ?_
      refine a_gf rfl rfl (by decide) rfl hh ?_
      refine a_cut ?_
      refine a_gf rfl rfl (by decide) rfl trivial ?_
      refine rw_gf rfl rfl (by decide) rfl ?_
      refine rw_p rfl rfl (y_pickF rfl rfl) ?_
      refine rw_p rfl rfl (y_pickF rfl rfl) ?_
      refine rw_done ?_
      refine gn_sq ?_
      refine HW_condF rfl rfl rfl ?_
      refine HW_skip rfl ?_
      refine gn_bl ?_
      refine gn_sq ?_
      refine HW_text (.pure 0 (.pure 1 .done)) (by kernel_rfl) ?_
      refine rw_p rfl rfl (y_add rfl rfl (i64w (by omega) (by omega))) ?_
      refine rw_p rfl rfl (y_move rfl) ?_
      refine rw_done ?_
      refine next (k + 1) (by omega) ⟨(hm.pick [3] rfl), by omega, fun j d hj hd => ?_⟩ ⟨nx k, rfl, rfl, rfl, rfl, rfl, trivial⟩
      rcases Nat.lt_or_ge j k with h | h
      · exact hno j d h hd
      · obtain rfl : j = k := by omega
        rw [hi] at hd; cases hd; exact hcf
  ·
    simp only [decide_eq_false_iff_not] at hc0
    obtain ⟨hall, hex⟩ := exs_some (f := f) (cs := cs) (fun j d hj => hno j d (by omega))
    refine HW_exit rfl ?_
    refine gx_sq (gx_lp ?_)
    refine gx_here ?_
    refine gn_sq ?_
    refine HW_seq rfl ?_
    refine HW_text (.pure 0 (.act 1 (.pure 2 .done))) (by kernel_rfl) ?_
    refine rw_p rfl rfl (y_move rfl) ?_
    refine a_call rfl rfl rfl go43 (clone_b p cap f _ (hf.ext0 hm.to) (by omega)) fun v w hR => ?_
    obtain ⟨p_s, cap_s, g_s, b_s, rfl, ha_s, hmc⟩ := hR
    refine ⟨trivial, ?_⟩
    have hg_s : b_s.real = true → _ := fun hr => (hmc.fresh _ List.mem_cons_self hr).resolve_left id
    replace hm := hm.callN hmc
    refine rw_p rfl rfl (y_assign rfl) ?_
    refine rw_done ?_
    refine gn_sq ?_
    refine HW_seq rfl ?_
    refine HW_seq rfl ?_
    refine HW_text (.pure 0 (.pure 1 (.pure 2 .done))) (by kernel_rfl) ?_
    refine rw_p rfl rfl (y_move rfl) ?_
    refine rw_p rfl rfl (y_len rfl rfl sl22) ?_
    refine rw_p rfl rfl (y_move rfl) ?_
    refine rw_done ?_
    refine gn_sq ?_
    refine HW_block rfl ?_
    refine HW_loopK (ι := Nat × Blk) rfl (ks := [11, 49, 50]) (.cons rfl (.cons rfl (.cons rfl .nil))) (fun x => [(51, .int .i64 x.1)]) (fun x w => Mem w0 w No [(g_s, x.2), (m1, .row 67 [.int .i64 0, .int .i64 f.length])] ∧ Acc 5 1 p_s f.length cap_s ((((cs.map CmdV.cm).take x.1).foldl Pl.ex1 f).flatMap encB) g_s x.2 ∧ x.1 ≤ cs.length) (fun x => cs.length - x.1) (0, b_s) (⟨(hm.pick [0, 1] rfl), ha_s, Nat.zero_le _⟩) ⟨rfl, trivial⟩ (fun x w hM => ?_)
    obtain ⟨hm, ha_s, hk⟩ := hM
    refine HW_seq rfl ?_
    refine HW_text (.pure 0 .done) (by kernel_rfl) ?_
    refine rw_p rfl rfl (y_lt rfl rfl) ?_
    refine rw_done ?_
    refine gn_sq ?_
    refine HW_seq rfl ?_
    refine HW_cond rfl rfl (fun hc2 => ?_) (fun hc2 => ?_)
    ·
      simp only [decide_eq_true_eq] at hc2
      obtain ⟨c, hi⟩ : ∃ y_, cs[x.1]? = some y_ := ⟨_, List.getElem?_eq_getElem (by omega)⟩
      obtain ⟨qb, qo, rfl⟩ := hq.atI encC_len (by decide) hi
      obtain ⟨hc, hcr⟩ := hcs c (List.mem_of_getElem? hi)
      have hck := Pl.ccheck_ok hc
      have k1 : c.cm.k = c.k := rfl
      have k2 : c.cm.to = c.to := rfl
      have k3 : c.cm.fr = c.fr := rfl
      have k4 : c.cm.ln = c.ln := rfl
      have k5 : c.cm.bs = c.d.bs := rfl
      rw [k1, k2, k3, k4, k5] at hck
      have hcf := cfits_iff (hall c (List.mem_of_getElem? hi))
      rw [k1, k2, k3, k4] at hcf
      have hFl := fold_len (f := f) (fun d hd => (hcs d hd).1) hall x.1
      generalize hF : ((cs.map CmdV.cm).take x.1).foldl Pl.ex1 f = F at *
      have hsc := ha_s.le
      obtain ⟨hbr, hpp⟩ : x.2.real = true ∧ 0 < f.length := by
        rcases ha_s.cases' with ⟨h1, _, _⟩ | ⟨l, _, h3, _⟩
        · omega
        · exact ⟨by rw [h3]; rfl, by omega⟩
      refine HW_skip rfl ?_
      refine gn_sq ?_
      refine HW_seq rfl ?_
      refine HW_block rfl ?_
      refine HW_seq rfl ?_
      refine HW_text (.pure 0 (.pure 1 (.act 2 (.act 3 .done)))) (by kernel_rfl) ?_
      refine rw_p rfl rfl (y_index rfl rfl sl22 rfl (by omega) (by omega)) ?_
      refine rw_p rfl rfl (y_elA rfl ag34 (hq.ext0 hm.to).nt encC_len hi) ?_
      refine a_alloc rfl rfl z34 hm trivial fun m2 w hg_m2 hm hh => ?_
      refine a_store rfl rfl rfl rfl sz34 rfl hm 0 rfl rfl fun w hm => ?_
      refine rw_done ?_
      refine gn_sq ?_
      refine HW_seq rfl ?_
      refine HW_text (.pure 0 (.act 1 (.pure 2 (.pure 3 (.pure 4 (.act 5 (.act 6 (.pure 7 .done)))))))) (by kernel_rfl) ?_
      refine rw_p rfl rfl (y_loadA (s := 5) (vs := [_, _, _, _, _]) rfl ag34 (hm.nt 0 rfl) rfl) ?_
      refine a_call rfl rfl rfl go41 (c_source c.cm c.d.p c.d.cap _) fun v w hR => ?_
      obtain ⟨rfl, hE⟩ := hR
      refine ⟨trivial, ?_⟩
      replace hm := hm.ext hE
      refine rw_p rfl rfl (y_move rfl) ?_
      refine rw_p rfl rfl (y_extract rfl rfl) ?_
      refine rw_p rfl rfl (y_extract rfl rfl) ?_
      refine a_alloc rfl rfl z67 hm trivial fun m3 w hg_m3 hm hh => ?_
      refine a_store rfl rfl rfl rfl sz67 rfl hm 0 rfl rfl fun w hm => ?_
      refine rw_p rfl rfl (y_assign rfl) ?_
      refine rw_done ?_
      refine gn_sq ?_
      refine HW_seq rfl ?_
      refine HW_text (.pure 0 .done) (by kernel_rfl) ?_
      refine rw_p rfl rfl (y_move rfl) ?_
      refine rw_done ?_
      refine gn_sq ?_
      refine HW_cond rfl rfl (fun hc3 => ?_) (fun hc3 => ?_)
      ·
        have hk1 : c.k = 1 := by simpa [k1] using hc3
        have hfk : (c.k = 1 ∧ Pl.csrc c.cm = (c.fr, c.ln)) := ⟨hk1, by unfold Pl.csrc; rw [k1, if_pos hk1, k3, k4]⟩
        refine HW_draw (.pure 0 (.pure 1 (.pure 2 (.pure 3 (.pure 4 (.pure 5 (.pure 6 (.pure 7 (.act 8 (.pure 9 (.act 10 .done))))))))))) (fun j => j = g_s) mix (by kernel_rfl) hm fun w hw hm0 hh => ?_
        have hm := hm0
        refine rw_p rfl rfl (y_move rfl) ?_
        refine rw_p rfl rfl (y_fieldAddr rfl fo34_1) ?_
        refine rw_p rfl rfl (y_load rfl sc3 (hm0.nd 1 rfl (hm0.ne 1 2 rfl rfl rfl rfl hbr)) rfl) ?_
        refine rw_p rfl rfl (y_slice (ln := c.to.toNat) (hn := f.length) rfl sl32 ⟨_, congrArg (fun x => some (Value.int .i64 x)) (by omega)⟩ rfl (by omega) (by omega) (fun h => ha_s.spot (by omega))) ?_
        refine rw_p rfl rfl (y_move rfl) ?_
        refine rw_p rfl rfl (y_fieldAddr rfl fo67_0) ?_
        refine rw_p rfl rfl (y_load rfl sc3 (hm0.nd 0 rfl (hm0.ne 0 2 rfl rfl rfl rfl hbr)) rfl) ?_
        refine rw_p rfl rfl (y_loadA (s := 2) (vs := [_, _]) rfl ag67 (hm0.nd 0 rfl (hm0.ne 0 2 rfl rfl rfl rfl hbr)) rfl) ?_
        refine a_call rfl rfl rfl go42 (C.eqv (ext_end c.fr c.ln _ (by simp only [Pl.I64]; omega)) (by rw [hfk.2]; first | done | rfl)) fun v w hR => ?_
        obtain ⟨rfl, hE⟩ := hR
        refine ⟨hh.ext hE, ?_⟩
        replace hm := hm.ext hE
        replace hh := hh.ext hE
        refine rw_p rfl rfl (y_slice (ln := c.fr.toNat) (hn := (c.fr.toNat + c.ln.toNat)) rfl sl32 ⟨_, congrArg (fun x => some (Value.int .i64 x)) (by rw [hfk.2]; first | rfl | omega | (simp only; omega))⟩ ⟨_, congrArg (fun x => some (Value.int .i64 x)) (by omega)⟩ (by omega) (by omega) (fun h => ha_s.spot (by omega))) ?_
        have hsl : ((F.drop c.fr.toNat).take c.ln.toNat).length = c.ln.toNat := by first | rfl | (simp only [List.length_take, List.length_drop]; omega)
        refine a_copyN (na := f.length) (o := c.to.toNat) (src := ((F.drop c.fr.toNat).take c.ln.toNat).flatMap encB) rfl rfl rfl rfl rfl sl32 rfl (by omega) ((ha_s.rd hm 2 rfl).sub (by omega)) (by rw [lenB]; first | omega | (simp only [List.length_take, List.length_drop, hFl]; omega)) (oneB _) ha_s hm 2 rfl hh rfl fun b_s w ha_s hm hh => ?_
        replace ha_s := ha_s.to (show _ = (Pl.ex1 F c.cm).flatMap encB from by rw [ex1_copy (by rw [k1]; exact hk1), upds_put (by first | omega | (simp only [List.length_take, List.length_drop, hFl]; omega))]; rfl)
        refine rw_done ?_
        refine gn_bl ?_
        refine gn_sq ?_
        refine HW_text (.pure 0 (.pure 1 .done)) (by kernel_rfl) ?_
        refine rw_p rfl rfl (y_add rfl rfl (i64w (by omega) (by omega))) ?_
        refine rw_p rfl rfl (y_move rfl) ?_
        refine rw_done ?_
        refine next (x.1 + 1, b_s) (by simp only; omega) ⟨(hm.pick [2, 3] rfl), ha_s.to (by rw [fold_take hi, hF]), by simp only; omega⟩ ⟨nx x.1, rfl, rfl, rfl, trivial⟩
      ·
        have hk1 : ¬ c.k = 1 := by simpa [k1] using hc3
        refine HW_draw (.pure 0 (.pure 1 (.pure 2 (.pure 3 (.pure 4 (.pure 5 (.act 6 .done))))))) (fun j => j = g_s) mix (by kernel_rfl) hm fun w hw hm0 hh => ?_
        have hm := hm0
        refine rw_p rfl rfl (y_move rfl) ?_
        refine rw_p rfl rfl (y_fieldAddr rfl fo34_1) ?_
        refine rw_p rfl rfl (y_load rfl sc3 (hm0.nd 1 rfl (hm0.ne 1 2 rfl rfl rfl rfl hbr)) rfl) ?_
        refine rw_p rfl rfl (y_slice (ln := c.to.toNat) (hn := f.length) rfl sl32 ⟨_, congrArg (fun x => some (Value.int .i64 x)) (by omega)⟩ rfl (by omega) (by omega) (fun h => ha_s.spot (by omega))) ?_
        refine rw_p rfl rfl (y_fieldAddr rfl fo34_4) ?_
        refine rw_p rfl rfl (y_load rfl sc32 (hm0.nd 1 rfl (hm0.ne 1 2 rfl rfl rfl rfl hbr)) rfl) ?_
        have hsl : (c.d.bs).length = c.d.bs.length := by first | rfl | (simp only [List.length_take, List.length_drop]; omega)
        refine a_copyN (na := f.length) (o := c.to.toNat) (src := (c.d.bs).flatMap encB) rfl rfl rfl rfl rfl sl32 rfl (by omega) (hcr.ext0 hm.to) (by rw [lenB]; first | omega | (simp only [List.length_take, List.length_drop, hFl]; omega)) (oneB _) ha_s hm 2 rfl hh rfl fun b_s w ha_s hm hh => ?_
        replace ha_s := ha_s.to (show _ = (Pl.ex1 F c.cm).flatMap encB from by rw [ex1_lit (by rw [k1]; exact hk1), upds_put (by first | omega | (simp only [List.length_take, List.length_drop, hFl]; omega))]; rfl)
        refine rw_done ?_
        refine gn_bl ?_
        refine gn_sq ?_
        refine HW_text (.pure 0 (.pure 1 .done)) (by kernel_rfl) ?_
        refine rw_p rfl rfl (y_add rfl rfl (i64w (by omega) (by omega))) ?_
        refine rw_p rfl rfl (y_move rfl) ?_
        refine rw_done ?_
        refine next (x.1 + 1, b_s) (by simp only; omega) ⟨(hm.pick [2, 3] rfl), ha_s.to (by rw [fold_take hi, hF]), by simp only; omega⟩ ⟨nx x.1, rfl, rfl, rfl, trivial⟩
    ·
      simp only [decide_eq_false_iff_not] at hc2
      have hke : x.1 = cs.length := by omega
      have hlc : (cs.map CmdV.cm).length = cs.length := List.length_map _
      have hFl := fold_len (f := f) (fun d hd => (hcs d hd).1) hall cs.length
      rw [hke] at ha_s
      rw [← hlc, List.take_length] at ha_s hFl
      refine HW_exit rfl ?_
      refine gx_sq (gx_lp ?_)
      refine gx_here ?_
      refine gn_sq ?_
      refine HW_seq rfl ?_
      refine HW_text (.pure 0 (.pure 1 (.pure 2 .done))) (by kernel_rfl) ?_
      refine rw_p rfl rfl (y_move rfl) ?_
      refine rw_p rfl rfl (y_assign rfl) ?_
      refine rw_p rfl rfl (y_assign rfl) ?_
      refine rw_done ?_
      refine gn_sq ?_
      refine HW_ret rfl ?_
      refine toR (fin hret rfl (.tmp rfl (.tmp rfl .nil)) .more ?_)
      exact ⟨_, _, _, _, _, by rw [hex]; rfl, by rw [hex]; exact ha_s, by rw [hex]; exact hFl.symm, (hm.pick [0] rfl)⟩

end Go.Proofs.Ytpandemmaoeioaa
