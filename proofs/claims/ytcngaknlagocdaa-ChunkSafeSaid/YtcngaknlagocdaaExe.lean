/- Contracts of functions of the program: what each returns. Conditions: the hypotheses of each theorem. -/
import Derived.Test.YtcngaknlagocdaaChk
set_option linter.unusedVariables false
set_option linter.unusedSimpArgs false
namespace Go.Proofs.Ytcngaknlagocdaa
open Go Go.Cx

theorem go53 : isGo Try.prog 53 = true := by kernel_rfl
theorem go57 : isGo Try.prog 57 = true := by kernel_rfl

set_option maxHeartbeats 2000000 in
theorem s_execute (p : Option Addr) (cap : Nat) (f : List UInt8) (q : Option Addr) (cq : Nat) (cs : List CmdV) (w0 : World) (hf : Rd w0 p (f.flatMap encB)) (hq : Rd w0 q (cs.flatMap encC)) (hcs : ∀ c ∈ cs, Pl.ccheck c.cm = 0 ∧ Rd w0 c.d.p (c.d.bs.flatMap encB)) (hfl : f.length ≤ 140737488355328) (hl : cs.length ≤ 4611686018427387903) : C Try.prog 29 [.slice p f.length cap, .slice q cs.length cq] w0 fun v w' => ∃ (n c g : Nat) (b : Blk) (qa : Option Addr), v = .tuple ⟨[.slice qa n c, .bool (Pl.exs f (cs.map CmdV.cm)).isSome]⟩ ∧ Acc 5 1 qa n c (((Pl.exs f (cs.map CmdV.cm)).getD []).flatMap encB) g b ∧ n = ((Pl.exs f (cs.map CmdV.cm)).getD []).length ∧ Mem w0 w' No [(g, b)] := by
  refine C_of Try.func29 rfl rfl rfl fun κ hret hnorm => ?_
  have hm := Mem.start w0
  refine HW_seq rfl ?_
  refine HW_text (.pure 0 (.pure 1 .done)) (by kernel_rfl) ?_
  refine rw_p rfl rfl (y_assign rfl) ?_
  refine rw_p rfl rfl (y_assign rfl) ?_
  refine rw_done ?_
  refine gn_sq ?_
  refine HW_seq rfl ?_
  refine HW_text (.pure 0 (.pure 1 (.pure 2 (.act 3 (.act 4 .done))))) (by kernel_rfl) ?_
  refine rw_p rfl rfl (y_move rfl) ?_
  refine rw_p rfl rfl (y_len rfl rfl sl22) ?_
  refine rw_p rfl rfl (y_build (cs := [_, _]) z61 ft61 rfl rfl rfl rfl rfl) ?_
  refine a_alloc rfl rfl z61 hm trivial fun m1 w hg_m1 hm hh => ?_
  refine a_store rfl rfl rfl rfl sz61 rfl hm 0 rfl rfl fun w hm => ?_
  refine rw_done ?_
  refine gn_sq ?_
  refine HW_seq rfl ?_
  refine HW_seq rfl ?_
  refine HW_text (.pure 0 (.pure 1 (.pure 2 .done))) (by kernel_rfl) ?_
  refine rw_p rfl rfl (y_move rfl) ?_
  refine rw_p rfl rfl (y_len rfl rfl sl27) ?_
  refine rw_p rfl rfl (y_move rfl) ?_
  refine rw_done ?_
  refine gn_sq ?_
  refine HW_block rfl ?_
  refine HW_loopK (ι := Nat) rfl (ks := [0, 1, 6, 19, 20]) (.cons rfl (.cons rfl (.cons rfl (.cons rfl (.cons rfl .nil))))) (fun k => [(21, .int .i64 k)]) (fun k w => Mem w0 w No [(m1, .row 61 [.int .i64 0, .int .i64 f.length])] ∧ k ≤ cs.length ∧ ∀ (j : Nat) c, j < k → cs[j]? = some c → Pl.cfits f.length c.cm = true) (fun k => cs.length - k) 0 (⟨(hm.pick [0] rfl), Nat.zero_le _, fun _ _ h => absurd h (Nat.not_lt_zero _)⟩) ⟨rfl, trivial⟩ (fun k w hM => ?_)
  obtain ⟨hm, hk, hno⟩ := hM
  refine HW_seq rfl ?_
  refine HW_text (.pure 0 .done) (by kernel_rfl) ?_
  refine rw_p rfl rfl (y_lt rfl rfl) ?_
  refine rw_done ?_
  refine gn_sq ?_
  refine HW_seq rfl ?_
  refine HW_cond rfl rfl (fun hc0 => ?_) (fun hc0 => ?_)
  ·
    simp only [decide_eq_true_eq] at hc0
    obtain ⟨c, hi⟩ : ∃ y_, cs[k]? = some y_ := ⟨_, List.getElem?_eq_getElem (by omega)⟩
    obtain ⟨qb, qo, rfl⟩ := hq.atI encC_len (by decide) hi
    obtain ⟨hc, hcr⟩ := hcs c (List.mem_of_getElem? hi)
    have hck := Pl.ccheck_ok hc
    have k1 : c.cm.k = c.k := rfl
    have k2 : c.cm.to = c.to := rfl
    have k3 : c.cm.fr = c.fr := rfl
    have k4 : c.cm.ln = c.ln := rfl
    have k5 : c.cm.bs = c.d.bs := rfl
    rw [k1, k2, k3, k4, k5] at hck
    refine HW_skip rfl ?_
    refine gn_sq ?_
    refine HW_seq rfl ?_
    refine HW_block rfl ?_
    refine HW_seq rfl ?_
    refine HW_text (.pure 0 (.pure 1 (.act 2 (.act 3 .done)))) (by kernel_rfl) ?_
    refine rw_p rfl rfl (y_index rfl rfl sl27 rfl (by omega) (by omega)) ?_
    refine rw_p rfl rfl (y_elA rfl ag24 (hq.ext0 hm.to).nt encC_len hi) ?_
    refine a_alloc rfl rfl z24 hm trivial fun m2 w hg_m2 hm hh => ?_
    refine a_store rfl rfl rfl rfl sz24 rfl hm 0 rfl rfl fun w hm => ?_
    refine rw_done ?_
    refine gn_sq ?_
    refine HW_seq rfl ?_
    refine HW_text (.pure 0 (.act 1 (.pure 2 (.pure 3 (.pure 4 (.act 5 (.act 6 (.pure 7 .done)))))))) (by kernel_rfl) ?_
    refine rw_p rfl rfl (y_loadA (s := 5) (vs := [_, _, _, _, _]) rfl ag24 (hm.nt 0 rfl) rfl) ?_
    refine a_call rfl rfl rfl go51 (c_source c.cm c.d.p c.d.cap _) fun v w hR => ?_
    obtain ⟨rfl, hE⟩ := hR
    refine ⟨trivial, ?_⟩
    replace hm := hm.ext hE
    refine rw_p rfl rfl (y_move rfl) ?_
    refine rw_p rfl rfl (y_extract rfl rfl) ?_
    refine rw_p rfl rfl (y_extract rfl rfl) ?_
    refine a_alloc rfl rfl z61 hm trivial fun m3 w hg_m3 hm hh => ?_
    refine a_store rfl rfl rfl rfl sz61 rfl hm 0 rfl rfl fun w hm => ?_
    refine rw_p rfl rfl (y_assign rfl) ?_
    refine rw_done ?_
    refine gn_sq ?_
    refine HW_seq rfl ?_
    by_cases hwi : c.to + Pl.clen c.cm ≤ f.length
    by_cases hk1 : c.k = 1
    rotate_left
    rotate_left
    ·
      have hbad : Pl.cfits f.length c.cm = false := cfits_not (.inl hwi)
      refine HW_draw (.pure 0 (.pure 1 (.act 2 (.act 3 (.act 4 (.pure 5 (.pure 6 (.pure 7 (.pure 8 (.pure 9 (.pure 10 (.act 11 (.cut (.act 12 (.pure 13 (.pure 14 (.pure 15 .done))))))))))))))))) No mix (by kernel_rfl) hm fun w hw hm0 hh => ?_
      have hm := hm0
      refine rw_p rfl rfl (y_loadA (s := 2) (vs := [_, _]) rfl ag61 (hm0.nd 2 rfl id) rfl) ?_
      refine rw_p rfl rfl (y_loadA (s := 5) (vs := [_, _, _, _, _]) rfl ag24 (hm0.nd 1 rfl id) rfl) ?_
      refine a_call rfl rfl rfl go36 (c_target c.cm c.d.p c.d.cap _) fun v w hR => ?_
      obtain ⟨rfl, hE⟩ := hR
      refine ⟨hh.ext hE, ?_⟩
      replace hm := hm.ext hE
      replace hh := hh.ext hE
      refine a_buildSlice (l := [_, _]) rfl rfl sl94 z61 rfl rfl rfl rfl rfl rfl rfl hm hh fun m4 w hg_m4 hm hh => ?_
      refine a_call rfl rfl rfl go52 (ext_contains 0 f.length _ 1 [(c.cm.to, Pl.clen c.cm)] _ (by simp only [Pl.I64]; omega) (Rd.row0 (hm.get (k := 0) rfl)) (by simp) (by simp only [List.mem_singleton]; rintro _ rfl; simp only [Pl.I64]; omega)) fun v w hR => ?_
      obtain ⟨rfl, hE⟩ := hR
      refine ⟨hh.ext hE, ?_⟩
      replace hm := hm.ext hE
      replace hh := hh.ext hE
      refine rw_p rfl rfl (y_not rfl) ?_
      refine rw_p rfl rfl (y_as (c := true) (y_move rfl) (by simp [Pl.within]; omega)) ?_
      refine rw_gf rfl rfl (by decide) rfl ?_
      refine rw_gf rfl rfl (by decide) rfl ?_
      refine rw_gu rfl rfl rfl ?_
      refine rw_gu rfl rfl rfl ?_
      refine a_gu rfl rfl rfl hh ?_
      refine a_cut ?_
      refine a_gu rfl rfl rfl trivial ?_
      refine rw_gu rfl rfl rfl ?_
      refine rw_gf rfl rfl (by decide) rfl ?_
      refine rw_p rfl rfl (y_pickT rfl rfl) ?_
      refine rw_done ?_
      refine gn_sq ?_
      refine HW_condT rfl rfl rfl ?_
      refine HW_seq rfl ?_
      refine HW_text (.pure 0 (.pure 1 .done)) (by kernel_rfl) ?_
      refine rw_p rfl rfl (y_assign rfl) ?_
      refine rw_p rfl rfl (y_assign rfl) ?_
      refine rw_done ?_
      refine gn_sq ?_
      refine HW_ret rfl ?_
      refine gr_bl (gr_sq (gr_lp (gr_bl (gr_sq ?_))))
      refine toR (fin hret rfl (.tmp rfl (.tmp rfl .nil)) .more ?_)
      exact ⟨0, 0, 0, .gap, none, by rw [exs_none hi hbad]; rfl, by rw [exs_none hi hbad]; exact .nil _ _ _ _, by rw [exs_none hi hbad]; rfl, (hm.drop (List.nil_sublist _)).gapIn⟩
    ·
      have hfk : (c.k = 1 ∧ Pl.csrc c.cm = (c.fr, c.ln)) := ⟨hk1, by unfold Pl.csrc; rw [k1, if_pos hk1, k3, k4]⟩
      refine HW_draw (.pure 0 (.pure 1 (.act 2 (.act 3 (.act 4 (.pure 5 (.pure 6 (.pure 7 (.pure 8 (.pure 9 (.pure 10 (.act 11 (.cut (.act 12 (.pure 13 (.pure 14 (.pure 15 .done))))))))))))))))) No mix (by kernel_rfl) hm fun w hw hm0 hh => ?_
      have hm := hm0
      refine rw_p rfl rfl (y_loadA (s := 2) (vs := [_, _]) rfl ag61 (hm0.nd 2 rfl id) rfl) ?_
      refine rw_p rfl rfl (y_loadA (s := 5) (vs := [_, _, _, _, _]) rfl ag24 (hm0.nd 1 rfl id) rfl) ?_
      refine a_call rfl rfl rfl go36 (c_target c.cm c.d.p c.d.cap _) fun v w hR => ?_
      obtain ⟨rfl, hE⟩ := hR
      refine ⟨hh.ext hE, ?_⟩
      replace hm := hm.ext hE
      replace hh := hh.ext hE
      refine a_buildSlice (l := [_, _]) rfl rfl sl94 z61 rfl rfl rfl rfl rfl rfl rfl hm hh fun m4 w hg_m4 hm hh => ?_
      refine a_call rfl rfl rfl go52 (ext_contains 0 f.length _ 1 [(c.cm.to, Pl.clen c.cm)] _ (by simp only [Pl.I64]; omega) (Rd.row0 (hm.get (k := 0) rfl)) (by simp) (by simp only [List.mem_singleton]; rintro _ rfl; simp only [Pl.I64]; omega)) fun v w hR => ?_
      obtain ⟨rfl, hE⟩ := hR
      refine ⟨hh.ext hE, ?_⟩
      replace hm := hm.ext hE
      replace hh := hh.ext hE
      refine rw_p rfl rfl (y_not rfl) ?_
      refine rw_p rfl rfl (y_as (c := false) (y_move rfl) (by simp [Pl.within]; omega)) ?_
      refine rw_p rfl rfl (y_move rfl) ?_
      refine rw_p rfl rfl (y_as (c := true) (y_move rfl) (by simp [k1, hk1])) ?_
      refine rw_p rfl rfl (y_loadA (s := 2) (vs := [_, _]) rfl ag61 (hm0.nd 2 rfl id) rfl) ?_
      refine rw_p rfl rfl (y_loadA (s := 2) (vs := [_, _]) rfl ag61 (hm0.nd 0 rfl id) rfl) ?_
      refine a_buildSlice (l := [_, _]) rfl rfl sl94 z61 rfl rfl rfl rfl rfl rfl rfl hm hh fun m5 w hg_m5 hm hh => ?_
      refine a_cut ?_
      refine a_call rfl rfl rfl go52 (ext_contains 0 f.length _ 1 [Pl.csrc c.cm] _ (by simp only [Pl.I64]; omega) (Rd.row0 (hm.get (k := 0) rfl)) (by simp) (by simp only [List.mem_singleton]; rintro _ rfl; rw [hfk.2]; simp only [Pl.I64]; omega)) fun v w hR => ?_
      obtain ⟨rfl, hE⟩ := hR
      refine ⟨trivial, ?_⟩
      replace hm := hm.ext hE
      refine rw_p rfl rfl (y_not rfl) ?_
      refine rw_p rfl rfl (y_pickT rfl rfl) ?_
      refine rw_p rfl rfl (y_pickF rfl rfl) ?_
      refine rw_done ?_
      refine gn_sq ?_
      refine HW_cond rfl rfl (fun hc1 => ?_) (fun hc1 => ?_)
      ·
        have hbad : Pl.cfits f.length c.cm = false := cfits_not (.inr ⟨hk1, by rw [k3, k4]; simp [hfk.2, Pl.within] at hc1; omega⟩)
        refine HW_seq rfl ?_
        refine HW_text (.pure 0 (.pure 1 .done)) (by kernel_rfl) ?_
        refine rw_p rfl rfl (y_assign rfl) ?_
        refine rw_p rfl rfl (y_assign rfl) ?_
        refine rw_done ?_
        refine gn_sq ?_
        refine HW_ret rfl ?_
        refine gr_bl (gr_sq (gr_lp (gr_bl (gr_sq ?_))))
        refine toR (fin hret rfl (.tmp rfl (.tmp rfl .nil)) .more ?_)
        exact ⟨0, 0, 0, .gap, none, by rw [exs_none hi hbad]; rfl, by rw [exs_none hi hbad]; exact .nil _ _ _ _, by rw [exs_none hi hbad]; rfl, (hm.drop (List.nil_sublist _)).gapIn⟩
      ·
        have hcf : Pl.cfits f.length c.cm = true := cfits_of hwi (fun _ => by rw [k3, k4]; simp [hfk.2, Pl.within] at hc1; omega)
        refine HW_skip rfl ?_
        refine gn_bl ?_
        refine gn_sq ?_
        refine HW_text (.pure 0 (.pure 1 .done)) (by kernel_rfl) ?_
        refine rw_p rfl rfl (y_add rfl rfl (i64w (by omega) (by omega))) ?_
        refine rw_p rfl rfl (y_move rfl) ?_
        refine rw_done ?_
        refine next (k + 1) (by omega) ⟨(hm.pick [4] rfl), by omega, fun j d hj hd => ?_⟩ ⟨nx k, rfl, rfl, rfl, rfl, rfl, trivial⟩
        rcases Nat.lt_or_ge j k with h | h
        · exact hno j d h hd
        · obtain rfl : j = k := by omega
          rw [hi] at hd; cases hd; exact hcf
    ·
      have hcf : Pl.cfits f.length c.cm = true := cfits_of hwi (fun h => absurd h hk1)
      refine HW_draw (.pure 0 (.pure 1 (.act 2 (.act 3 (.act 4 (.pure 5 (.pure 6 (.pure 7 (.pure 8 (.pure 9 (.pure 10 (.act 11 (.cut (.act 12 (.pure 13 (.pure 14 (.pure 15 .done))))))))))))))))) No mix (by kernel_rfl) hm fun w hw hm0 hh => ?_
      have hm := hm0
      refine rw_p rfl rfl (y_loadA (s := 2) (vs := [_, _]) rfl ag61 (hm0.nd 2 rfl id) rfl) ?_
      refine rw_p rfl rfl (y_loadA (s := 5) (vs := [_, _, _, _, _]) rfl ag24 (hm0.nd 1 rfl id) rfl) ?_
      refine a_call rfl rfl rfl go36 (c_target c.cm c.d.p c.d.cap _) fun v w hR => ?_
      obtain ⟨rfl, hE⟩ := hR
      refine ⟨hh.ext hE, ?_⟩
      replace hm := hm.ext hE
      replace hh := hh.ext hE
      refine a_buildSlice (l := [_, _]) rfl rfl sl94 z61 rfl rfl rfl rfl rfl rfl rfl hm hh fun m4 w hg_m4 hm hh => ?_
      refine a_call rfl rfl rfl go52 (ext_contains 0 f.length _ 1 [(c.cm.to, Pl.clen c.cm)] _ (by simp only [Pl.I64]; omega) (Rd.row0 (hm.get (k := 0) rfl)) (by simp) (by simp only [List.mem_singleton]; rintro _ rfl; simp only [Pl.I64]; omega)) fun v w hR => ?_
      obtain ⟨rfl, hE⟩ := hR
      refine ⟨hh.ext hE, ?_⟩
      replace hm := hm.ext hE
      replace hh := hh.ext hE
      refine rw_p rfl rfl (y_not rfl) ?_
      refine rw_p rfl rfl (y_as (c := false) (y_move rfl) (by simp [Pl.within]; omega)) ?_
      refine rw_p rfl rfl (y_move rfl) ?_
      refine rw_p rfl rfl (y_as (c := false) (y_move rfl) (by simp [k1, hk1])) ?_
      refine rw_gf rfl rfl (by decide) rfl ?_
      refine rw_gf rfl rfl (by decide) rfl ?_
      refine a_gf rfl rfl (by decide) rfl hh ?_
      refine a_cut ?_
      refine a_gf rfl rfl (by decide) rfl trivial ?_
      refine rw_gf rfl rfl (by decide) rfl ?_
      refine rw_p rfl rfl (y_pickF rfl rfl) ?_
      refine rw_p rfl rfl (y_pickF rfl rfl) ?_
      refine rw_done ?_
      refine gn_sq ?_
      refine HW_condF rfl rfl rfl ?_
      refine HW_skip rfl ?_
      refine gn_bl ?_
      refine gn_sq ?_
      refine HW_text (.pure 0 (.pure 1 .done)) (by kernel_rfl) ?_
      refine rw_p rfl rfl (y_add rfl rfl (i64w (by omega) (by omega))) ?_
      refine rw_p rfl rfl (y_move rfl) ?_
      refine rw_done ?_
      refine next (k + 1) (by omega) ⟨(hm.pick [3] rfl), by omega, fun j d hj hd => ?_⟩ ⟨nx k, rfl, rfl, rfl, rfl, rfl, trivial⟩
      rcases Nat.lt_or_ge j k with h | h
      · exact hno j d h hd
      · obtain rfl : j = k := by omega
        rw [hi] at hd; cases hd; exact hcf
  ·
    simp only [decide_eq_false_iff_not] at hc0
    obtain ⟨hall, hex⟩ := exs_some (f := f) (cs := cs) (fun j d hj => hno j d (by omega))
    refine HW_exit rfl ?_
    refine gx_sq (gx_lp ?_)
    refine gx_here ?_
    refine gn_sq ?_
    refine HW_seq rfl ?_
    refine HW_text (.pure 0 (.act 1 (.pure 2 .done))) (by kernel_rfl) ?_
    refine rw_p rfl rfl (y_move rfl) ?_
    refine a_call rfl rfl rfl go53 (clone_b p cap f _ (hf.ext0 hm.to) (by omega)) fun v w hR => ?_
    obtain ⟨p_s, cap_s, g_s, b_s, rfl, ha_s, hmc⟩ := hR
    refine ⟨trivial, ?_⟩
    have hg_s : b_s.real = true → _ := fun hr => (hmc.fresh _ List.mem_cons_self hr).resolve_left id
    replace hm := hm.callN hmc
    refine rw_p rfl rfl (y_assign rfl) ?_
    refine rw_done ?_
    refine gn_sq ?_
    refine HW_seq rfl ?_
    refine HW_seq rfl ?_
    refine HW_text (.pure 0 (.pure 1 (.pure 2 .done))) (by kernel_rfl) ?_
    refine rw_p rfl rfl (y_move rfl) ?_
    refine rw_p rfl rfl (y_len rfl rfl sl27) ?_
    refine rw_p rfl rfl (y_move rfl) ?_
    refine rw_done ?_
    refine gn_sq ?_
    refine HW_block rfl ?_
    refine HW_loopK (ι := Nat × Blk) rfl (ks := [11, 49, 50]) (.cons rfl (.cons rfl (.cons rfl .nil))) (fun x => [(51, .int .i64 x.1)]) (fun x w => Mem w0 w No [(g_s, x.2), (m1, .row 61 [.int .i64 0, .int .i64 f.length])] ∧ Acc 5 1 p_s f.length cap_s ((((cs.map CmdV.cm).take x.1).foldl Pl.ex1 f).flatMap encB) g_s x.2 ∧ x.1 ≤ cs.length) (fun x => cs.length - x.1) (0, b_s) (⟨(hm.pick [0, 1] rfl), ha_s, Nat.zero_le _⟩) ⟨rfl, trivial⟩ (fun x w hM => ?_)
    obtain ⟨hm, ha_s, hk⟩ := hM
    refine HW_seq rfl ?_
    refine HW_text (.pure 0 .done) (by kernel_rfl) ?_
    refine rw_p rfl rfl (y_lt rfl rfl) ?_
    refine rw_done ?_
    refine gn_sq ?_
    refine HW_seq rfl ?_
    refine HW_cond rfl rfl (fun hc2 => ?_) (fun hc2 => ?_)
    ·
      simp only [decide_eq_true_eq] at hc2
      obtain ⟨c, hi⟩ : ∃ y_, cs[x.1]? = some y_ := ⟨_, List.getElem?_eq_getElem (by omega)⟩
      obtain ⟨qb, qo, rfl⟩ := hq.atI encC_len (by decide) hi
      obtain ⟨hc, hcr⟩ := hcs c (List.mem_of_getElem? hi)
      have hck := Pl.ccheck_ok hc
      have k1 : c.cm.k = c.k := rfl
      have k2 : c.cm.to = c.to := rfl
      have k3 : c.cm.fr = c.fr := rfl
      have k4 : c.cm.ln = c.ln := rfl
      have k5 : c.cm.bs = c.d.bs := rfl
      rw [k1, k2, k3, k4, k5] at hck
      have hcf := cfits_iff (hall c (List.mem_of_getElem? hi))
      rw [k1, k2, k3, k4] at hcf
      have hFl := fold_len (f := f) (fun d hd => (hcs d hd).1) hall x.1
      generalize hF : ((cs.map CmdV.cm).take x.1).foldl Pl.ex1 f = F at *
      have hsc := ha_s.le
      obtain ⟨hbr, hpp⟩ : x.2.real = true ∧ 0 < f.length := by
        rcases ha_s.cases' with ⟨h1, _, _⟩ | ⟨l, _, h3, _⟩
        · omega
        · exact ⟨by rw [h3]; rfl, by omega⟩
      refine HW_skip rfl ?_
      refine gn_sq ?_
      refine HW_seq rfl ?_
      refine HW_block rfl ?_
      refine HW_seq rfl ?_
      refine HW_text (.pure 0 (.pure 1 (.act 2 (.act 3 .done)))) (by kernel_rfl) ?_
      refine rw_p rfl rfl (y_index rfl rfl sl27 rfl (by omega) (by omega)) ?_
      refine rw_p rfl rfl (y_elA rfl ag24 (hq.ext0 hm.to).nt encC_len hi) ?_
      refine a_alloc rfl rfl z24 hm trivial fun m2 w hg_m2 hm hh => ?_
      refine a_store rfl rfl rfl rfl sz24 rfl hm 0 rfl rfl fun w hm => ?_
      refine rw_done ?_
      refine gn_sq ?_
      refine HW_seq rfl ?_
      refine HW_text (.pure 0 (.act 1 (.pure 2 (.pure 3 (.pure 4 (.act 5 (.act 6 (.pure 7 .done)))))))) (by kernel_rfl) ?_
      refine rw_p rfl rfl (y_loadA (s := 5) (vs := [_, _, _, _, _]) rfl ag24 (hm.nt 0 rfl) rfl) ?_
      refine a_call rfl rfl rfl go51 (c_source c.cm c.d.p c.d.cap _) fun v w hR => ?_
      obtain ⟨rfl, hE⟩ := hR
      refine ⟨trivial, ?_⟩
      replace hm := hm.ext hE
      refine rw_p rfl rfl (y_move rfl) ?_
      refine rw_p rfl rfl (y_extract rfl rfl) ?_
      refine rw_p rfl rfl (y_extract rfl rfl) ?_
      refine a_alloc rfl rfl z61 hm trivial fun m3 w hg_m3 hm hh => ?_
      refine a_store rfl rfl rfl rfl sz61 rfl hm 0 rfl rfl fun w hm => ?_
      refine rw_p rfl rfl (y_assign rfl) ?_
      refine rw_done ?_
      refine gn_sq ?_
      refine HW_seq rfl ?_
      refine HW_text (.pure 0 .done) (by kernel_rfl) ?_
      refine rw_p rfl rfl (y_move rfl) ?_
      refine rw_done ?_
      refine gn_sq ?_
      refine HW_cond rfl rfl (fun hc3 => ?_) (fun hc3 => ?_)
      ·
        have hk1 : c.k = 1 := by simpa [k1] using hc3
        have hfk : (c.k = 1 ∧ Pl.csrc c.cm = (c.fr, c.ln)) := ⟨hk1, by unfold Pl.csrc; rw [k1, if_pos hk1, k3, k4]⟩
        refine HW_draw (.pure 0 (.pure 1 (.pure 2 (.pure 3 (.pure 4 (.pure 5 (.pure 6 (.pure 7 (.act 8 (.pure 9 (.act 10 .done))))))))))) (fun j => j = g_s) mix (by kernel_rfl) hm fun w hw hm0 hh => ?_
        have hm := hm0
        refine rw_p rfl rfl (y_move rfl) ?_
        refine rw_p rfl rfl (y_fieldAddr rfl fo24_1) ?_
        refine rw_p rfl rfl (y_load rfl sc3 (hm0.nd 1 rfl (hm0.ne 1 2 rfl rfl rfl rfl hbr)) rfl) ?_
        refine rw_p rfl rfl (y_slice (ln := c.to.toNat) (hn := f.length) rfl sl22 ⟨_, congrArg (fun x => some (Value.int .i64 x)) (by omega)⟩ rfl (by omega) (by omega) (fun h => ha_s.spot (by omega))) ?_
        refine rw_p rfl rfl (y_move rfl) ?_
        refine rw_p rfl rfl (y_fieldAddr rfl fo61_0) ?_
        refine rw_p rfl rfl (y_load rfl sc3 (hm0.nd 0 rfl (hm0.ne 0 2 rfl rfl rfl rfl hbr)) rfl) ?_
        refine rw_p rfl rfl (y_loadA (s := 2) (vs := [_, _]) rfl ag61 (hm0.nd 0 rfl (hm0.ne 0 2 rfl rfl rfl rfl hbr)) rfl) ?_
        refine a_call rfl rfl rfl go54 (C.eqv (ext_end c.fr c.ln _ (by simp only [Pl.I64]; omega)) (by rw [hfk.2]; first | done | rfl)) fun v w hR => ?_
        obtain ⟨rfl, hE⟩ := hR
        refine ⟨hh.ext hE, ?_⟩
        replace hm := hm.ext hE
        replace hh := hh.ext hE
        refine rw_p rfl rfl (y_slice (ln := c.fr.toNat) (hn := (c.fr.toNat + c.ln.toNat)) rfl sl22 ⟨_, congrArg (fun x => some (Value.int .i64 x)) (by rw [hfk.2]; first | rfl | omega | (simp only; omega))⟩ ⟨_, congrArg (fun x => some (Value.int .i64 x)) (by omega)⟩ (by omega) (by omega) (fun h => ha_s.spot (by omega))) ?_
        have hsl : ((F.drop c.fr.toNat).take c.ln.toNat).length = c.ln.toNat := by first | rfl | (simp only [List.length_take, List.length_drop]; omega)
        refine a_copyN (na := f.length) (o := c.to.toNat) (src := ((F.drop c.fr.toNat).take c.ln.toNat).flatMap encB) rfl rfl rfl rfl rfl sl22 rfl (by omega) ((ha_s.rd hm 2 rfl).sub (by omega)) (by rw [lenB]; first | omega | (simp only [List.length_take, List.length_drop, hFl]; omega)) (oneB _) ha_s hm 2 rfl hh rfl fun b_s w ha_s hm hh => ?_
        replace ha_s := ha_s.to (show _ = (Pl.ex1 F c.cm).flatMap encB from by rw [ex1_copy (by rw [k1]; exact hk1), upds_put (by first | omega | (simp only [List.length_take, List.length_drop, hFl]; omega))]; rfl)
        refine rw_done ?_
        refine gn_bl ?_
        refine gn_sq ?_
        refine HW_text (.pure 0 (.pure 1 .done)) (by kernel_rfl) ?_
        refine rw_p rfl rfl (y_add rfl rfl (i64w (by omega) (by omega))) ?_
        refine rw_p rfl rfl (y_move rfl) ?_
        refine rw_done ?_
        refine next (x.1 + 1, b_s) (by simp only; omega) ⟨(hm.pick [2, 3] rfl), ha_s.to (by rw [fold_take hi, hF]), by simp only; omega⟩ ⟨nx x.1, rfl, rfl, rfl, trivial⟩
      ·
        have hk1 : ¬ c.k = 1 := by simpa [k1] using hc3
        refine HW_draw (.pure 0 (.pure 1 (.pure 2 (.pure 3 (.pure 4 (.pure 5 (.act 6 .done))))))) (fun j => j = g_s) mix (by kernel_rfl) hm fun w hw hm0 hh => ?_
        have hm := hm0
        refine rw_p rfl rfl (y_move rfl) ?_
        refine rw_p rfl rfl (y_fieldAddr rfl fo24_1) ?_
        refine rw_p rfl rfl (y_load rfl sc3 (hm0.nd 1 rfl (hm0.ne 1 2 rfl rfl rfl rfl hbr)) rfl) ?_
        refine rw_p rfl rfl (y_slice (ln := c.to.toNat) (hn := f.length) rfl sl22 ⟨_, congrArg (fun x => some (Value.int .i64 x)) (by omega)⟩ rfl (by omega) (by omega) (fun h => ha_s.spot (by omega))) ?_
        refine rw_p rfl rfl (y_fieldAddr rfl fo24_4) ?_
        refine rw_p rfl rfl (y_load rfl sc22 (hm0.nd 1 rfl (hm0.ne 1 2 rfl rfl rfl rfl hbr)) rfl) ?_
        have hsl : (c.d.bs).length = c.d.bs.length := by first | rfl | (simp only [List.length_take, List.length_drop]; omega)
        refine a_copyN (na := f.length) (o := c.to.toNat) (src := (c.d.bs).flatMap encB) rfl rfl rfl rfl rfl sl22 rfl (by omega) (hcr.ext0 hm.to) (by rw [lenB]; first | omega | (simp only [List.length_take, List.length_drop, hFl]; omega)) (oneB _) ha_s hm 2 rfl hh rfl fun b_s w ha_s hm hh => ?_
        replace ha_s := ha_s.to (show _ = (Pl.ex1 F c.cm).flatMap encB from by rw [ex1_lit (by rw [k1]; exact hk1), upds_put (by first | omega | (simp only [List.length_take, List.length_drop, hFl]; omega))]; rfl)
        refine rw_done ?_
        refine gn_bl ?_
        refine gn_sq ?_
        refine HW_text (.pure 0 (.pure 1 .done)) (by kernel_rfl) ?_
        refine rw_p rfl rfl (y_add rfl rfl (i64w (by omega) (by omega))) ?_
        refine rw_p rfl rfl (y_move rfl) ?_
        refine rw_done ?_
        refine next (x.1 + 1, b_s) (by simp only; omega) ⟨(hm.pick [2, 3] rfl), ha_s.to (by rw [fold_take hi, hF]), by simp only; omega⟩ ⟨nx x.1, rfl, rfl, rfl, trivial⟩
    ·
      simp only [decide_eq_false_iff_not] at hc2
      have hke : x.1 = cs.length := by omega
      have hlc : (cs.map CmdV.cm).length = cs.length := List.length_map _
      have hFl := fold_len (f := f) (fun d hd => (hcs d hd).1) hall cs.length
      rw [hke] at ha_s
      rw [← hlc, List.take_length] at ha_s hFl
      refine HW_exit rfl ?_
      refine gx_sq (gx_lp ?_)
      refine gx_here ?_
      refine gn_sq ?_
      refine HW_seq rfl ?_
      refine HW_text (.pure 0 (.pure 1 (.pure 2 .done))) (by kernel_rfl) ?_
      refine rw_p rfl rfl (y_move rfl) ?_
      refine rw_p rfl rfl (y_assign rfl) ?_
      refine rw_p rfl rfl (y_assign rfl) ?_
      refine rw_done ?_
      refine gn_sq ?_
      refine HW_ret rfl ?_
      refine toR (fin hret rfl (.tmp rfl (.tmp rfl .nil)) .more ?_)
      exact ⟨_, _, _, _, _, by rw [hex]; rfl, by rw [hex]; exact ha_s, by rw [hex]; exact hFl.symm, (hm.pick [0] rfl)⟩

set_option maxHeartbeats 800000 in
theorem r16_run (p : Option Addr) (cap : Nat) (f : List UInt8) (c : Pl.Cm) (q : Option Addr) (cq : Nat) (w0 : World) (hf : Rd w0 p (f.flatMap encB)) (hle : f.length ≤ cap) (hsp : cap ≠ 0 → ∀ ad, p = some ad → ad.spot = none) (hq : Rd w0 q (c.bs.flatMap encB)) (hc : Pl.ccheck c = 0) (hcf : Pl.cfits f.length c = true) (hfl : f.length ≤ 1000000) : C Try.prog 57 [.slice p f.length cap, .agg ⟨cmV c q c.bs.length cq⟩] w0 fun v w' => ∃ (n cp g : Nat) (b : Blk) (qa : Option Addr), v = .slice qa n cp ∧ Acc 5 1 qa n cp ((Pl.ex1 f c).flatMap encB) g b ∧ Mem w0 w' No [(g, b)] := by
  have hck := Pl.ccheck_ok hc
  have hcf2 := cfits_iff hcf
  have hwl := Pl.wrt_length hc hcf
  have hWp : Pl.wrt f c = if c.k = 1 then (f.drop c.fr.toNat).take c.ln.toNat else c.bs := rfl
  have htl : (f.take c.to.toNat).length = c.to.toNat := by rw [List.length_take]; omega
  have ht9 : (f.drop (c.to.toNat + (Pl.wrt f c).length)).take f.length = f.drop (c.to.toNat + (Pl.wrt f c).length) := List.take_of_length_le (by rw [List.length_drop]; omega)
  refine C_of Try.func57 rfl rfl rfl fun κ hret hnorm => ?_
  have hm := Mem.start w0
  refine HW_seq rfl ?_
  refine HW_text (.act 0 (.pure 1 .done)) (by kernel_rfl) ?_
  refine a_box rfl rfl rfl rfl hm trivial fun m1 w hg_m1 hm hh => ?_
  refine rw_p rfl rfl (y_assign rfl) ?_
  refine rw_done ?_
  refine gn_sq ?_
  refine HW_seq rfl ?_
  refine HW_text (.pure 0 (.pure 1 (.pure 2 .done))) (by kernel_rfl) ?_
  refine rw_p rfl rfl (y_fieldAddr rfl fo24_4) ?_
  refine rw_p rfl rfl (y_load rfl sc22 (hm.nt 0 rfl) rfl) ?_
  refine rw_p rfl rfl (y_assign rfl) ?_
  refine rw_done ?_
  refine gn_sq ?_
  refine HW_seq rfl ?_
  refine HW_seq rfl ?_
  refine HW_text (.pure 0 (.pure 1 (.pure 2 .done))) (by kernel_rfl) ?_
  refine rw_p rfl rfl (y_fieldAddr rfl fo24_0) ?_
  refine rw_p rfl rfl (y_load rfl sc3 (hm.nt 0 rfl) rfl) ?_
  refine rw_p rfl rfl (y_eq rfl rfl) ?_
  refine rw_done ?_
  refine gn_sq ?_
  refine HW_cond rfl rfl (fun hc0 => ?_) (fun hc0 => ?_)
  ·
    have hk1 : c.k = 1 := by simpa using hc0
    have hW : Pl.wrt f c = (f.drop c.fr.toNat).take c.ln.toNat := by rw [hWp, if_pos hk1]
    have hcl : ((f.drop c.fr.toNat).take c.ln.toNat).length = c.ln.toNat := by rw [← hW]; omega
    refine HW_text (.act 0 (.pure 1 (.pure 2 (.pure 3 (.pure 4 (.pure 5 (.pure 6 (.pure 7 (.pure 8 (.pure 9 (.act 10 (.pure 11 .done)))))))))))) (by kernel_rfl) ?_
    refine a_buildSlice (l := []) rfl rfl sl22 z5 rfl rfl rfl rfl rfl rfl rfl hm trivial fun m2 w hg_m2 hm hh => ?_
    refine rw_p rfl rfl (y_move rfl) ?_
    refine rw_p rfl rfl (y_fieldAddr rfl fo24_2) ?_
    refine rw_p rfl rfl (y_load rfl sc3 (hm.nt 1 rfl) rfl) ?_
    refine rw_p rfl rfl (y_fieldAddr rfl fo24_2) ?_
    refine rw_p rfl rfl (y_load rfl sc3 (hm.nt 1 rfl) rfl) ?_
    refine rw_p rfl rfl (y_fieldAddr rfl fo24_3) ?_
    refine rw_p rfl rfl (y_load rfl sc3 (hm.nt 1 rfl) rfl) ?_
    refine rw_p rfl rfl (y_add rfl rfl (i64w (by omega) (by omega))) ?_
    refine rw_p rfl rfl (y_v (y_slice (ln := c.fr.toNat) (hn := (c.fr.toNat + c.ln.toNat)) rfl sl22 ⟨_, congrArg (fun x => some (Value.int .i64 x)) (by omega)⟩ ⟨_, congrArg (fun x => some (Value.int .i64 x)) (by omega)⟩ (by omega) (by omega) (fun h => hsp (by omega))) (show _ = Value.slice (slp p cap c.fr.toNat 1) ((f.drop c.fr.toNat).take c.ln.toNat).length (cap - c.fr.toNat) by rw [hcl, Nat.add_sub_cancel_left])) ?_
    refine a_append rfl rfl rfl rfl rfl rfl sl22 sl22 z5 rfl (oneB _) ((hf.ext0 hm.to).sub hle) (lenB _) (Acc.row rfl) hm 0 rfl (by rw [hcl]; omega) (by rw [hcl]; omega) fun p_d cap_d g_d b_d w ha_d hm => ?_
    replace ha_d := ha_d.to (show _ = (Pl.wrt f c).flatMap encB from by rw [hW]; rfl)
    refine rw_p rfl rfl (y_assign rfl) ?_
    refine rw_done ?_
    refine gn_sq ?_
    refine HW_seq rfl ?_
    refine HW_text (.act 0 (.pure 1 (.pure 2 (.pure 3 (.pure 4 (.act 5 (.pure 6 .done))))))) (by kernel_rfl) ?_
    refine a_buildSlice (l := []) rfl rfl sl22 z5 rfl rfl rfl rfl rfl rfl rfl hm trivial fun m3 w hg_m3 hm hh => ?_
    refine rw_p rfl rfl (y_move rfl) ?_
    refine rw_p rfl rfl (y_fieldAddr rfl fo24_1) ?_
    refine rw_p rfl rfl (y_load rfl sc3 (hm.nt 2 rfl) rfl) ?_
    refine rw_p rfl rfl (y_v (y_slice (ln := 0) (hn := c.to.toNat) rfl sl22 rfl ⟨_, congrArg (fun x => some (Value.int .i64 x)) (by omega)⟩ (Nat.zero_le _) (by omega) hsp) (show _ = Value.slice p (f.take c.to.toNat).length cap by rw [slp_zero' hsp, htl]; rfl)) ?_
    refine a_append rfl rfl rfl rfl rfl rfl sl22 sl22 z5 rfl (oneB _) ((hf.ext0 hm.to).takeB _) (lenB _) (Acc.row rfl) hm 0 rfl (by rw [htl]; omega) (by rw [htl]; omega) fun p_s cap_s g_s b_s w ha_s hm => ?_
    refine rw_p rfl rfl (y_assign rfl) ?_
    refine rw_done ?_
    refine gn_sq ?_
    refine HW_seq rfl ?_
    refine HW_text (.pure 0 (.pure 1 (.act 2 (.pure 3 .done)))) (by kernel_rfl) ?_
    refine rw_p rfl rfl (y_move rfl) ?_
    refine rw_p rfl rfl (y_move rfl) ?_
    refine a_append rfl rfl rfl rfl rfl rfl sl22 sl22 z5 rfl (oneB _) (ha_d.rd hm 1 rfl) (by first | exact ha_d.len | exact lenB _) ha_s hm 0 rfl (by rw [htl, hcl]; omega) (by rw [htl, hcl]; omega) fun p_s cap_s g_s b_s w ha_s hm => ?_
    refine rw_p rfl rfl (y_assign rfl) ?_
    refine rw_done ?_
    refine gn_sq ?_
    refine HW_seq rfl ?_
    refine HW_text (.pure 0 (.pure 1 (.pure 2 (.pure 3 (.pure 4 (.pure 5 (.pure 6 (.pure 7 (.act 8 (.pure 9 .done)))))))))) (by kernel_rfl) ?_
    refine rw_p rfl rfl (y_move rfl) ?_
    refine rw_p rfl rfl (y_move rfl) ?_
    refine rw_p rfl rfl (y_fieldAddr rfl fo24_1) ?_
    refine rw_p rfl rfl (y_load rfl sc3 (hm.nt 2 rfl) rfl) ?_
    refine rw_p rfl rfl (y_move rfl) ?_
    refine rw_p rfl rfl (y_len rfl rfl sl22) ?_
    refine rw_p rfl rfl (y_add rfl rfl (i64w (by rw [hcl]; omega) (by rw [hcl]; omega))) ?_
    refine rw_p rfl rfl (y_slice (ln := (c.to.toNat + (Pl.wrt f c).length)) (hn := f.length) rfl sl22 ⟨_, congrArg (fun x => some (Value.int .i64 x)) (by rw [hcl]; omega)⟩ rfl (by omega) (by omega) (fun h => hsp (by omega))) ?_
    refine a_append rfl rfl rfl rfl rfl rfl sl22 sl22 z5 rfl (oneB _) ((hf.ext0 hm.to).sub (m := f.length) hle) (by rw [lenB, List.length_take, List.length_drop]; omega) ha_s hm 0 rfl (by rw [htl, hcl]; omega) (by rw [htl, hcl]; omega) fun p_s cap_s g_s b_s w ha_s hm => ?_
    refine rw_p rfl rfl (y_assign rfl) ?_
    refine rw_done ?_
    refine gn_sq ?_
    refine HW_ret rfl ?_
    refine toR (fin hret rfl (.tmp rfl .nil) .one ?_)
    exact ⟨_, _, _, _, _, rfl, ha_s.to (by unfold Pl.ex1 Pl.put; simp only [List.flatMap_append, List.nil_append, ht9, ← hW]), (hm.pick [0] rfl)⟩
  ·
    have hk1 : ¬ c.k = 1 := by simpa using hc0
    have hW : Pl.wrt f c = c.bs := by rw [hWp, if_neg hk1]
    have hcl : c.bs.length = (Pl.wrt f c).length := by rw [hW]
    refine HW_skip rfl ?_
    refine gn_sq ?_
    refine HW_seq rfl ?_
    refine HW_text (.act 0 (.pure 1 (.pure 2 (.pure 3 (.pure 4 (.act 5 (.pure 6 .done))))))) (by kernel_rfl) ?_
    refine a_buildSlice (l := []) rfl rfl sl22 z5 rfl rfl rfl rfl rfl rfl rfl hm trivial fun m2 w hg_m2 hm hh => ?_
    refine rw_p rfl rfl (y_move rfl) ?_
    refine rw_p rfl rfl (y_fieldAddr rfl fo24_1) ?_
    refine rw_p rfl rfl (y_load rfl sc3 (hm.nt 1 rfl) rfl) ?_
    refine rw_p rfl rfl (y_v (y_slice (ln := 0) (hn := c.to.toNat) rfl sl22 rfl ⟨_, congrArg (fun x => some (Value.int .i64 x)) (by omega)⟩ (Nat.zero_le _) (by omega) hsp) (show _ = Value.slice p (f.take c.to.toNat).length cap by rw [slp_zero' hsp, htl]; rfl)) ?_
    refine a_append rfl rfl rfl rfl rfl rfl sl22 sl22 z5 rfl (oneB _) ((hf.ext0 hm.to).takeB _) (lenB _) (Acc.row rfl) hm 0 rfl (by rw [htl]; omega) (by rw [htl]; omega) fun p_s cap_s g_s b_s w ha_s hm => ?_
    refine rw_p rfl rfl (y_assign rfl) ?_
    refine rw_done ?_
    refine gn_sq ?_
    refine HW_seq rfl ?_
    refine HW_text (.pure 0 (.pure 1 (.act 2 (.pure 3 .done)))) (by kernel_rfl) ?_
    refine rw_p rfl rfl (y_move rfl) ?_
    refine rw_p rfl rfl (y_move rfl) ?_
    refine a_append rfl rfl rfl rfl rfl rfl sl22 sl22 z5 rfl (oneB _) (hq.ext0 hm.to) (by first | exact ha_d.len | exact lenB _) ha_s hm 0 rfl (by rw [htl, hcl]; omega) (by rw [htl, hcl]; omega) fun p_s cap_s g_s b_s w ha_s hm => ?_
    refine rw_p rfl rfl (y_assign rfl) ?_
    refine rw_done ?_
    refine gn_sq ?_
    refine HW_seq rfl ?_
    refine HW_text (.pure 0 (.pure 1 (.pure 2 (.pure 3 (.pure 4 (.pure 5 (.pure 6 (.pure 7 (.act 8 (.pure 9 .done)))))))))) (by kernel_rfl) ?_
    refine rw_p rfl rfl (y_move rfl) ?_
    refine rw_p rfl rfl (y_move rfl) ?_
    refine rw_p rfl rfl (y_fieldAddr rfl fo24_1) ?_
    refine rw_p rfl rfl (y_load rfl sc3 (hm.nt 1 rfl) rfl) ?_
    refine rw_p rfl rfl (y_move rfl) ?_
    refine rw_p rfl rfl (y_len rfl rfl sl22) ?_
    refine rw_p rfl rfl (y_add rfl rfl (i64w (by rw [hcl]; omega) (by rw [hcl]; omega))) ?_
    refine rw_p rfl rfl (y_slice (ln := (c.to.toNat + (Pl.wrt f c).length)) (hn := f.length) rfl sl22 ⟨_, congrArg (fun x => some (Value.int .i64 x)) (by rw [hcl]; omega)⟩ rfl (by omega) (by omega) (fun h => hsp (by omega))) ?_
    refine a_append rfl rfl rfl rfl rfl rfl sl22 sl22 z5 rfl (oneB _) ((hf.ext0 hm.to).sub (m := f.length) hle) (by rw [lenB, List.length_take, List.length_drop]; omega) ha_s hm 0 rfl (by rw [htl, hcl]; omega) (by rw [htl, hcl]; omega) fun p_s cap_s g_s b_s w ha_s hm => ?_
    refine rw_p rfl rfl (y_assign rfl) ?_
    refine rw_done ?_
    refine gn_sq ?_
    refine HW_ret rfl ?_
    refine toR (fin hret rfl (.tmp rfl .nil) .one ?_)
    exact ⟨_, _, _, _, _, rfl, ha_s.to (by unfold Pl.ex1 Pl.put; simp only [List.flatMap_append, List.nil_append, ht9, ← hW]), (hm.pick [0] rfl)⟩

set_option maxHeartbeats 2000000 in
theorem r16_execute (p : Option Addr) (cap : Nat) (f : List UInt8) (q : Option Addr) (cq : Nat) (cs : List CmdV) (w0 : World) (hf : Rd w0 p (f.flatMap encB)) (hq : Rd w0 q (cs.flatMap encC)) (hcs : ∀ c ∈ cs, Pl.ccheck c.cm = 0 ∧ Rd w0 c.d.p (c.d.bs.flatMap encB)) (hfl : f.length ≤ 1000000) (hl : cs.length ≤ 4611686018427387903) (hle : f.length ≤ cap) (hsp : cap ≠ 0 → ∀ ad, p = some ad → ad.spot = none) : C Try.prog 34 [.slice p f.length cap, .slice q cs.length cq] w0 fun v w' => ∃ (n c g : Nat) (b : Blk) (qa : Option Addr), v = .tuple ⟨[.slice qa n c, .bool (Pl.exs f (cs.map CmdV.cm)).isSome]⟩ ∧ Acc 5 1 qa n c (((Pl.exs f (cs.map CmdV.cm)).getD []).flatMap encB) g b ∧ n = ((Pl.exs f (cs.map CmdV.cm)).getD []).length ∧ Mem w0 w' No [(g, b)] := by
  refine C_of Try.func34 rfl rfl rfl fun κ hret hnorm => ?_
  have hm := Mem.start w0
  refine HW_seq rfl ?_
  refine HW_text (.pure 0 (.pure 1 .done)) (by kernel_rfl) ?_
  refine rw_p rfl rfl (y_assign rfl) ?_
  refine rw_p rfl rfl (y_assign rfl) ?_
  refine rw_done ?_
  refine gn_sq ?_
  refine HW_seq rfl ?_
  refine HW_seq rfl ?_
  refine HW_text (.pure 0 .done) (by kernel_rfl) ?_
  refine rw_p rfl rfl (y_assign rfl) ?_
  refine rw_done ?_
  refine gn_sq ?_
  refine HW_block rfl ?_
  refine HW_loopK (ι := Nat) rfl (ks := [0, 1]) (.cons rfl (.cons rfl .nil)) (fun k => [(6, .int .i64 k)]) (fun k w => Mem w0 w No [] ∧ k ≤ cs.length ∧ ∀ (j : Nat) c, j < k → cs[j]? = some c → Pl.cfits f.length c.cm = true) (fun k => cs.length - k) 0 (⟨hm, Nat.zero_le _, fun _ _ h => absurd h (Nat.not_lt_zero _)⟩) ⟨rfl, trivial⟩ (fun k w hM => ?_)
  obtain ⟨hm, hk, hno⟩ := hM
  refine HW_seq rfl ?_
  refine HW_seq rfl ?_
  refine HW_text (.pure 0 (.pure 1 (.pure 2 (.pure 3 .done)))) (by kernel_rfl) ?_
  refine rw_p rfl rfl (y_move rfl) ?_
  refine rw_p rfl rfl (y_move rfl) ?_
  refine rw_p rfl rfl (y_len rfl rfl sl27) ?_
  refine rw_p rfl rfl (y_lt rfl rfl) ?_
  refine rw_done ?_
  refine gn_sq ?_
  refine HW_cond rfl rfl (fun hc0 => ?_) (fun hc0 => ?_)
  ·
    simp only [decide_eq_true_eq] at hc0
    obtain ⟨c, hi⟩ : ∃ y_, cs[k]? = some y_ := ⟨_, List.getElem?_eq_getElem (by omega)⟩
    obtain ⟨qb, qo, rfl⟩ := hq.atI encC_len (by decide) hi
    obtain ⟨hc, hcr⟩ := hcs c (List.mem_of_getElem? hi)
    have hck := Pl.ccheck_ok hc
    have k1 : c.cm.k = c.k := rfl
    have k2 : c.cm.to = c.to := rfl
    have k3 : c.cm.fr = c.fr := rfl
    have k4 : c.cm.ln = c.ln := rfl
    have k5 : c.cm.bs = c.d.bs := rfl
    rw [k1, k2, k3, k4, k5] at hck
    refine HW_skip rfl ?_
    refine gn_sq ?_
    refine HW_seq rfl ?_
    refine HW_block rfl ?_
    refine HW_seq rfl ?_
    by_cases hwi : c.to + Pl.clen c.cm ≤ f.length
    by_cases hk1 : c.k = 1
    rotate_left
    rotate_left
    ·
      have hbad : Pl.cfits f.length c.cm = false := cfits_not (.inl hwi)
      refine HW_draw (.pure 0 (.pure 1 (.pure 2 (.pure 3 (.pure 4 (.pure 5 (.pure 6 (.pure 7 (.pure 8 (.pure 11 (.pure 12 (.act 9 (.pure 10 (.pure 13 (.pure 14 (.pure 15 (.pure 16 (.pure 17 (.pure 18 (.pure 19 (.pure 20 (.pure 21 (.pure 22 (.pure 23 (.pure 24 (.pure 25 (.pure 26 (.pure 27 (.pure 28 (.pure 29 (.pure 30 (.pure 31 (.pure 32 (.pure 33 (.pure 34 (.pure 35 (.pure 36 (.pure 37 .done)))))))))))))))))))))))))))))))))))))) No mix (by kernel_rfl) hm fun w hw hm0 hh => ?_
      have hm := hm0
      refine rw_p rfl rfl (y_move rfl) ?_
      refine rw_p rfl rfl (y_move rfl) ?_
      refine rw_p rfl rfl (y_index rfl rfl sl27 rfl (by omega) (by omega)) ?_
      refine rw_p rfl rfl (y_fieldAddr rfl fo24_1) ?_
      refine rw_p rfl rfl (y_elS rfl sc3 (hq.ext0 hm0.to).nd encC_len hi rfl) ?_
      refine rw_p rfl rfl (y_move rfl) ?_
      refine rw_p rfl rfl (y_move rfl) ?_
      refine rw_p rfl rfl (y_index rfl rfl sl27 rfl (by omega) (by omega)) ?_
      refine rw_p rfl rfl (y_elA rfl ag24 (hq.ext0 hm0.to).nd encC_len hi) ?_
      refine rw_p rfl rfl (y_move rfl) ?_
      refine rw_p rfl rfl (y_len rfl rfl sl22) ?_
      refine a_call rfl rfl rfl go18 (r4_len c.cm c.d.p c.d.cap _) fun v w hR => ?_
      obtain ⟨rfl, hE⟩ := hR
      refine ⟨hh.ext hE, ?_⟩
      replace hm := hm.ext hE
      replace hh := hh.ext hE
      refine rw_p rfl rfl (y_add rfl rfl (i64w (by omega) (by omega))) ?_
      refine rw_p rfl rfl (y_gt rfl rfl) ?_
      refine rw_p rfl rfl (y_as (c := true) (y_move rfl) (by simp; omega)) ?_
      refine rw_gf rfl rfl (by decide) rfl ?_
      refine rw_gf rfl rfl (by decide) rfl ?_
      refine rw_gf rfl rfl (by decide) rfl ?_
      refine rw_gf rfl rfl (by decide) rfl ?_
      refine rw_gf rfl rfl (by decide) rfl ?_
      refine rw_gf rfl rfl (by decide) rfl ?_
      refine rw_gf rfl rfl (by decide) rfl ?_
      refine rw_gu rfl rfl rfl ?_
      refine rw_gu rfl rfl rfl ?_
      refine rw_gu rfl rfl rfl ?_
      refine rw_gu rfl rfl rfl ?_
      refine rw_gu rfl rfl rfl ?_
      refine rw_gu rfl rfl rfl ?_
      refine rw_gu rfl rfl rfl ?_
      refine rw_gu rfl rfl rfl ?_
      refine rw_gu rfl rfl rfl ?_
      refine rw_gu rfl rfl rfl ?_
      refine rw_gu rfl rfl rfl ?_
      refine rw_gu rfl rfl rfl ?_
      refine rw_gu rfl rfl rfl ?_
      refine rw_gu rfl rfl rfl ?_
      refine rw_gf rfl rfl (by decide) rfl ?_
      refine rw_p rfl rfl (y_pickT rfl rfl) ?_
      refine rw_done ?_
      refine gn_sq ?_
      refine HW_condT rfl rfl rfl ?_
      refine HW_seq rfl ?_
      refine HW_text (.pure 0 (.pure 1 .done)) (by kernel_rfl) ?_
      refine rw_p rfl rfl (y_assign rfl) ?_
      refine rw_p rfl rfl (y_assign rfl) ?_
      refine rw_done ?_
      refine gn_sq ?_
      refine HW_ret rfl ?_
      refine gr_bl (gr_sq (gr_lp (gr_bl (gr_sq ?_))))
      refine toR (fin hret rfl (.tmp rfl (.tmp rfl .nil)) .more ?_)
      exact ⟨0, 0, 0, .gap, none, by rw [exs_none hi hbad]; rfl, by rw [exs_none hi hbad]; exact .nil _ _ _ _, by rw [exs_none hi hbad]; rfl, (hm.drop (List.nil_sublist _)).gapIn⟩
    ·
      refine HW_draw (.pure 0 (.pure 1 (.pure 2 (.pure 3 (.pure 4 (.pure 5 (.pure 6 (.pure 7 (.pure 8 (.pure 11 (.pure 12 (.act 9 (.pure 10 (.pure 13 (.pure 14 (.pure 15 (.pure 16 (.pure 17 (.pure 18 (.pure 19 (.pure 20 (.pure 21 (.pure 22 (.pure 23 (.pure 24 (.pure 25 (.pure 26 (.pure 27 (.pure 28 (.pure 29 (.pure 30 (.pure 31 (.pure 32 (.pure 33 (.pure 34 (.pure 35 (.pure 36 (.pure 37 .done)))))))))))))))))))))))))))))))))))))) No mix (by kernel_rfl) hm fun w hw hm0 hh => ?_
      have hm := hm0
      refine rw_p rfl rfl (y_move rfl) ?_
      refine rw_p rfl rfl (y_move rfl) ?_
      refine rw_p rfl rfl (y_index rfl rfl sl27 rfl (by omega) (by omega)) ?_
      refine rw_p rfl rfl (y_fieldAddr rfl fo24_1) ?_
      refine rw_p rfl rfl (y_elS rfl sc3 (hq.ext0 hm0.to).nd encC_len hi rfl) ?_
      refine rw_p rfl rfl (y_move rfl) ?_
      refine rw_p rfl rfl (y_move rfl) ?_
      refine rw_p rfl rfl (y_index rfl rfl sl27 rfl (by omega) (by omega)) ?_
      refine rw_p rfl rfl (y_elA rfl ag24 (hq.ext0 hm0.to).nd encC_len hi) ?_
      refine rw_p rfl rfl (y_move rfl) ?_
      refine rw_p rfl rfl (y_len rfl rfl sl22) ?_
      refine a_call rfl rfl rfl go18 (r4_len c.cm c.d.p c.d.cap _) fun v w hR => ?_
      obtain ⟨rfl, hE⟩ := hR
      refine ⟨hh.ext hE, ?_⟩
      replace hm := hm.ext hE
      replace hh := hh.ext hE
      refine rw_p rfl rfl (y_add rfl rfl (i64w (by omega) (by omega))) ?_
      refine rw_p rfl rfl (y_gt rfl rfl) ?_
      refine rw_p rfl rfl (y_as (c := false) (y_move rfl) (by simp; omega)) ?_
      refine rw_p rfl rfl (y_move rfl) ?_
      refine rw_p rfl rfl (y_move rfl) ?_
      refine rw_p rfl rfl (y_index rfl rfl sl27 rfl (by omega) (by omega)) ?_
      refine rw_p rfl rfl (y_fieldAddr rfl fo24_0) ?_
      refine rw_p rfl rfl (y_elS rfl sc3 (hq.ext0 hm0.to).nd encC_len hi rfl) ?_
      refine rw_p rfl rfl (y_eq rfl rfl) ?_
      refine rw_p rfl rfl (y_as (c := true) (y_move rfl) (by simp [hk1])) ?_
      refine rw_p rfl rfl (y_move rfl) ?_
      refine rw_p rfl rfl (y_move rfl) ?_
      refine rw_p rfl rfl (y_index rfl rfl sl27 rfl (by omega) (by omega)) ?_
      refine rw_p rfl rfl (y_fieldAddr rfl fo24_2) ?_
      refine rw_p rfl rfl (y_elS rfl sc3 (hq.ext0 hm0.to).nd encC_len hi rfl) ?_
      refine rw_p rfl rfl (y_move rfl) ?_
      refine rw_p rfl rfl (y_move rfl) ?_
      refine rw_p rfl rfl (y_index rfl rfl sl27 rfl (by omega) (by omega)) ?_
      refine rw_p rfl rfl (y_fieldAddr rfl fo24_3) ?_
      refine rw_p rfl rfl (y_elS rfl sc3 (hq.ext0 hm0.to).nd encC_len hi rfl) ?_
      refine rw_p rfl rfl (y_add rfl rfl (i64w (by omega) (by omega))) ?_
      refine rw_p rfl rfl (y_move rfl) ?_
      refine rw_p rfl rfl (y_len rfl rfl sl22) ?_
      refine rw_p rfl rfl (y_gt rfl rfl) ?_
      refine rw_p rfl rfl (y_pickT rfl rfl) ?_
      refine rw_p rfl rfl (y_pickF rfl rfl) ?_
      refine rw_done ?_
      refine gn_sq ?_
      refine HW_cond rfl rfl (fun hc1 => ?_) (fun hc1 => ?_)
      ·
        have hbad : Pl.cfits f.length c.cm = false := cfits_not (.inr ⟨hk1, by rw [k3, k4]; simp at hc1; omega⟩)
        refine HW_seq rfl ?_
        refine HW_text (.pure 0 (.pure 1 .done)) (by kernel_rfl) ?_
        refine rw_p rfl rfl (y_assign rfl) ?_
        refine rw_p rfl rfl (y_assign rfl) ?_
        refine rw_done ?_
        refine gn_sq ?_
        refine HW_ret rfl ?_
        refine gr_bl (gr_sq (gr_lp (gr_bl (gr_sq ?_))))
        refine toR (fin hret rfl (.tmp rfl (.tmp rfl .nil)) .more ?_)
        exact ⟨0, 0, 0, .gap, none, by rw [exs_none hi hbad]; rfl, by rw [exs_none hi hbad]; exact .nil _ _ _ _, by rw [exs_none hi hbad]; rfl, (hm.drop (List.nil_sublist _)).gapIn⟩
      ·
        have hcf : Pl.cfits f.length c.cm = true := cfits_of hwi (fun _ => by rw [k3, k4]; simp at hc1; omega)
        refine HW_skip rfl ?_
        refine gn_bl ?_
        refine gn_sq ?_
        refine HW_text (.pure 0 (.pure 1 (.pure 2 .done))) (by kernel_rfl) ?_
        refine rw_p rfl rfl (y_move rfl) ?_
        refine rw_p rfl rfl (y_add rfl rfl (i64w (by omega) (by omega))) ?_
        refine rw_p rfl rfl (y_assign rfl) ?_
        refine rw_done ?_
        refine next (k + 1) (by omega) ⟨hm, by omega, fun j d hj hd => ?_⟩ ⟨nx k, rfl, rfl, trivial⟩
        rcases Nat.lt_or_ge j k with h | h
        · exact hno j d h hd
        · obtain rfl : j = k := by omega
          rw [hi] at hd; cases hd; exact hcf
    ·
      have hcf : Pl.cfits f.length c.cm = true := cfits_of hwi (fun h => absurd h hk1)
      refine HW_draw (.pure 0 (.pure 1 (.pure 2 (.pure 3 (.pure 4 (.pure 5 (.pure 6 (.pure 7 (.pure 8 (.pure 11 (.pure 12 (.act 9 (.pure 10 (.pure 13 (.pure 14 (.pure 15 (.pure 16 (.pure 17 (.pure 18 (.pure 19 (.pure 20 (.pure 21 (.pure 22 (.pure 23 (.pure 24 (.pure 25 (.pure 26 (.pure 27 (.pure 28 (.pure 29 (.pure 30 (.pure 31 (.pure 32 (.pure 33 (.pure 34 (.pure 35 (.pure 36 (.pure 37 .done)))))))))))))))))))))))))))))))))))))) No mix (by kernel_rfl) hm fun w hw hm0 hh => ?_
      have hm := hm0
      refine rw_p rfl rfl (y_move rfl) ?_
      refine rw_p rfl rfl (y_move rfl) ?_
      refine rw_p rfl rfl (y_index rfl rfl sl27 rfl (by omega) (by omega)) ?_
      refine rw_p rfl rfl (y_fieldAddr rfl fo24_1) ?_
      refine rw_p rfl rfl (y_elS rfl sc3 (hq.ext0 hm0.to).nd encC_len hi rfl) ?_
      refine rw_p rfl rfl (y_move rfl) ?_
      refine rw_p rfl rfl (y_move rfl) ?_
      refine rw_p rfl rfl (y_index rfl rfl sl27 rfl (by omega) (by omega)) ?_
      refine rw_p rfl rfl (y_elA rfl ag24 (hq.ext0 hm0.to).nd encC_len hi) ?_
      refine rw_p rfl rfl (y_move rfl) ?_
      refine rw_p rfl rfl (y_len rfl rfl sl22) ?_
      refine a_call rfl rfl rfl go18 (r4_len c.cm c.d.p c.d.cap _) fun v w hR => ?_
      obtain ⟨rfl, hE⟩ := hR
      refine ⟨hh.ext hE, ?_⟩
      replace hm := hm.ext hE
      replace hh := hh.ext hE
      refine rw_p rfl rfl (y_add rfl rfl (i64w (by omega) (by omega))) ?_
      refine rw_p rfl rfl (y_gt rfl rfl) ?_
      refine rw_p rfl rfl (y_as (c := false) (y_move rfl) (by simp; omega)) ?_
      refine rw_p rfl rfl (y_move rfl) ?_
      refine rw_p rfl rfl (y_move rfl) ?_
      refine rw_p rfl rfl (y_index rfl rfl sl27 rfl (by omega) (by omega)) ?_
      refine rw_p rfl rfl (y_fieldAddr rfl fo24_0) ?_
      refine rw_p rfl rfl (y_elS rfl sc3 (hq.ext0 hm0.to).nd encC_len hi rfl) ?_
      refine rw_p rfl rfl (y_eq rfl rfl) ?_
      refine rw_p rfl rfl (y_as (c := false) (y_move rfl) (by simp [hk1])) ?_
      refine rw_gf rfl rfl (by decide) rfl ?_
      refine rw_gf rfl rfl (by decide) rfl ?_
      refine rw_gf rfl rfl (by decide) rfl ?_
      refine rw_gf rfl rfl (by decide) rfl ?_
      refine rw_gf rfl rfl (by decide) rfl ?_
      refine rw_gf rfl rfl (by decide) rfl ?_
      refine rw_gf rfl rfl (by decide) rfl ?_
      refine rw_gf rfl rfl (by decide) rfl ?_
      refine rw_gf rfl rfl (by decide) rfl ?_
      refine rw_gf rfl rfl (by decide) rfl ?_
      refine rw_gf rfl rfl (by decide) rfl ?_
      refine rw_gf rfl rfl (by decide) rfl ?_
      refine rw_gf rfl rfl (by decide) rfl ?_
      refine rw_gf rfl rfl (by decide) rfl ?_
      refine rw_p rfl rfl (y_pickF rfl rfl) ?_
      refine rw_p rfl rfl (y_pickF rfl rfl) ?_
      refine rw_done ?_
      refine gn_sq ?_
      refine HW_condF rfl rfl rfl ?_
      refine HW_skip rfl ?_
      refine gn_bl ?_
      refine gn_sq ?_
      refine HW_text (.pure 0 (.pure 1 (.pure 2 .done))) (by kernel_rfl) ?_
      refine rw_p rfl rfl (y_move rfl) ?_
      refine rw_p rfl rfl (y_add rfl rfl (i64w (by omega) (by omega))) ?_
      refine rw_p rfl rfl (y_assign rfl) ?_
      refine rw_done ?_
      refine next (k + 1) (by omega) ⟨hm, by omega, fun j d hj hd => ?_⟩ ⟨nx k, rfl, rfl, trivial⟩
      rcases Nat.lt_or_ge j k with h | h
      · exact hno j d h hd
      · obtain rfl : j = k := by omega
        rw [hi] at hd; cases hd; exact hcf
  ·
    simp only [decide_eq_false_iff_not] at hc0
    obtain ⟨hall, hex⟩ := exs_some (f := f) (cs := cs) (fun j d hj => hno j d (by omega))
    refine HW_exit rfl ?_
    refine gx_sq (gx_lp ?_)
    refine gx_here ?_
    refine gn_sq ?_
    refine HW_seq rfl ?_
    refine HW_text (.act 0 (.pure 1 (.act 2 (.pure 3 .done)))) (by kernel_rfl) ?_
    refine a_buildSlice (l := []) rfl rfl sl22 z5 rfl rfl rfl rfl rfl rfl rfl hm trivial fun m1 w hg_m1 hm hh => ?_
    refine rw_p rfl rfl (y_move rfl) ?_
    refine a_append rfl rfl rfl rfl rfl rfl sl22 sl22 z5 rfl (oneB f) (hf.ext0 hm.to) (lenB f) (Acc.row rfl) hm 0 rfl (by omega) (by omega) fun p_s cap_s g_s b_s w ha_s hm => ?_
    refine rw_p rfl rfl (y_assign rfl) ?_
    refine rw_done ?_
    refine gn_sq ?_
    refine HW_seq rfl ?_
    refine HW_seq rfl ?_
    refine HW_text (.pure 0 .done) (by kernel_rfl) ?_
    refine rw_p rfl rfl (y_assign rfl) ?_
    refine rw_done ?_
    refine gn_sq ?_
    refine HW_block rfl ?_
    refine HW_loopK (ι := Nat × Ow) rfl (ks := [1]) (.cons rfl .nil) (fun x => [(8, .int .i64 x.1), (7, .slice x.2.p x.2.n x.2.cap)]) (fun x w => Mem w0 w No [(x.2.g, x.2.b)] ∧ Acc 5 1 x.2.p x.2.n x.2.cap ((((cs.map CmdV.cm).take x.1).foldl Pl.ex1 f).flatMap encB) x.2.g x.2.b ∧ x.1 ≤ cs.length) (fun x => cs.length - x.1) (0, ⟨p_s, _, cap_s, g_s, b_s⟩) (⟨(hm.pick [0] rfl), ha_s, Nat.zero_le _⟩) ⟨rfl, rfl, trivial⟩ (fun x w hM => ?_)
    obtain ⟨hm, ha_s, hk⟩ := hM
    refine HW_seq rfl ?_
    refine HW_seq rfl ?_
    refine HW_text (.pure 0 (.pure 1 (.pure 2 (.pure 3 .done)))) (by kernel_rfl) ?_
    refine rw_p rfl rfl (y_move rfl) ?_
    refine rw_p rfl rfl (y_move rfl) ?_
    refine rw_p rfl rfl (y_len rfl rfl sl27) ?_
    refine rw_p rfl rfl (y_lt rfl rfl) ?_
    refine rw_done ?_
    refine gn_sq ?_
    refine HW_cond rfl rfl (fun hc2 => ?_) (fun hc2 => ?_)
    ·
      simp only [decide_eq_true_eq] at hc2
      obtain ⟨c, hi⟩ : ∃ y_, cs[x.1]? = some y_ := ⟨_, List.getElem?_eq_getElem (by omega)⟩
      obtain ⟨qb, qo, rfl⟩ := hq.atI encC_len (by decide) hi
      obtain ⟨hc, hcr⟩ := hcs c (List.mem_of_getElem? hi)
      have hck := Pl.ccheck_ok hc
      have k1 : c.cm.k = c.k := rfl
      have k2 : c.cm.to = c.to := rfl
      have k3 : c.cm.fr = c.fr := rfl
      have k4 : c.cm.ln = c.ln := rfl
      have k5 : c.cm.bs = c.d.bs := rfl
      rw [k1, k2, k3, k4, k5] at hck
      have hFl := fold_len (f := f) (fun d hd => (hcs d hd).1) hall x.1
      generalize hF : ((cs.map CmdV.cm).take x.1).foldl Pl.ex1 f = F at *
      have hnl := ha_s.lenB
      have hsc := ha_s.le
      refine HW_skip rfl ?_
      refine gn_sq ?_
      refine HW_seq rfl ?_
      refine HW_block rfl ?_
      refine HW_text (.pure 0 (.pure 1 (.pure 2 (.pure 3 (.pure 4 (.act 5 (.pure 6 .done))))))) (by kernel_rfl) ?_
      refine rw_p rfl rfl (y_v (y_move rfl) (show _ = Value.slice x.2.p F.length x.2.cap by rw [hnl])) ?_
      refine rw_p rfl rfl (y_move rfl) ?_
      refine rw_p rfl rfl (y_move rfl) ?_
      refine rw_p rfl rfl (y_index rfl rfl sl27 rfl (by omega) (by omega)) ?_
      refine rw_p rfl rfl (y_elA rfl ag24 (hq.ext0 hm.to).nt encC_len hi) ?_
      refine a_call rfl rfl rfl go57 (r16_run x.2.p x.2.cap F c.cm c.d.p c.d.cap _ (ha_s.rd hm 0 rfl) (by omega) (fun h => ha_s.spot h) (hcr.ext0 hm.to) hc (by rw [hFl]; exact hall c (List.mem_of_getElem? hi)) (by omega)) fun v w hR => ?_
      obtain ⟨n_t, cap_t, g_t, b_t, p_t, rfl, ha_t, hmc⟩ := hR
      refine ⟨trivial, ?_⟩
      replace hm := hm.callN hmc
      refine rw_p rfl rfl (y_assign rfl) ?_
      refine rw_done ?_
      refine gn_bl ?_
      refine gn_sq ?_
      refine HW_text (.pure 0 (.pure 1 (.pure 2 .done))) (by kernel_rfl) ?_
      refine rw_p rfl rfl (y_move rfl) ?_
      refine rw_p rfl rfl (y_add rfl rfl (i64w (by omega) (by omega))) ?_
      refine rw_p rfl rfl (y_assign rfl) ?_
      refine rw_done ?_
      refine next (x.1 + 1, ⟨p_t, _, cap_t, g_t, b_t⟩) (by simp only; omega) ⟨(hm.pick [0] rfl), ha_t.to (by rw [fold_take hi, hF]), by simp only; omega⟩ ⟨nx x.1, rfl, rfl, trivial⟩
    ·
      simp only [decide_eq_false_iff_not] at hc2
      have hke : x.1 = cs.length := by omega
      have hlc : (cs.map CmdV.cm).length = cs.length := List.length_map _
      rw [hke] at ha_s
      rw [← hlc, List.take_length] at ha_s
      refine HW_exit rfl ?_
      refine gx_sq (gx_lp ?_)
      refine gx_here ?_
      refine gn_sq ?_
      refine HW_seq rfl ?_
      refine HW_text (.pure 0 (.pure 1 (.pure 2 .done))) (by kernel_rfl) ?_
      refine rw_p rfl rfl (y_move rfl) ?_
      refine rw_p rfl rfl (y_assign rfl) ?_
      refine rw_p rfl rfl (y_assign rfl) ?_
      refine rw_done ?_
      refine gn_sq ?_
      refine HW_ret rfl ?_
      refine toR (fin hret rfl (.tmp rfl (.tmp rfl .nil)) .more ?_)
      exact ⟨_, _, _, _, _, by rw [hex]; rfl, by rw [hex]; exact ha_s, by rw [hex]; exact ha_s.lenB, (hm.pick [0] rfl)⟩

theorem r16_short (q : Option Addr) (cq : Nat) (cs : List CmdV) (w0 : World) (hq : Rd w0 q (cs.flatMap encC)) (hl : cs.length ≤ 4611686018427387903) : C Try.prog 33 [.slice q cs.length cq] w0 fun v w' => (∃ b, v = .bool b) ∧ Ext No w0 w' := by
  refine C_of Try.func33 rfl rfl rfl fun κ hret hnorm => ?_
  have hm := Mem.start w0
  refine HW_seq rfl ?_
  refine HW_text (.pure 0 .done) (by kernel_rfl) ?_
  refine rw_p rfl rfl (y_assign rfl) ?_
  refine rw_done ?_
  refine gn_sq ?_
  refine HW_seq rfl ?_
  refine HW_seq rfl ?_
  refine HW_text (.pure 0 .done) (by kernel_rfl) ?_
  refine rw_p rfl rfl (y_assign rfl) ?_
  refine rw_done ?_
  refine gn_sq ?_
  refine HW_block rfl ?_
  refine HW_loopK (ι := Nat) rfl (ks := [0]) (.cons rfl .nil) (fun k => [(3, .int .i64 k)]) (fun k w => Mem w0 w No [] ∧ k ≤ cs.length) (fun k => cs.length - k) 0 (⟨hm, Nat.zero_le _⟩) ⟨rfl, trivial⟩ (fun k w hM => ?_)
  obtain ⟨hm, hk⟩ := hM
  refine HW_seq rfl ?_
  refine HW_seq rfl ?_
  refine HW_text (.pure 0 (.pure 1 (.pure 2 (.pure 3 .done)))) (by kernel_rfl) ?_
  refine rw_p rfl rfl (y_move rfl) ?_
  refine rw_p rfl rfl (y_move rfl) ?_
  refine rw_p rfl rfl (y_len rfl rfl sl27) ?_
  refine rw_p rfl rfl (y_lt rfl rfl) ?_
  refine rw_done ?_
  refine gn_sq ?_
  refine HW_cond rfl rfl (fun hc0 => ?_) (fun hc0 => ?_)
  ·
    simp only [decide_eq_true_eq] at hc0
    obtain ⟨c, hi⟩ : ∃ y_, cs[k]? = some y_ := ⟨_, List.getElem?_eq_getElem (by omega)⟩
    obtain ⟨qb, qo, rfl⟩ := hq.atI encC_len (by decide) hi
    refine HW_skip rfl ?_
    refine gn_sq ?_
    refine HW_seq rfl ?_
    refine HW_block rfl ?_
    refine HW_seq rfl ?_
    refine HW_text (.pure 0 (.pure 1 (.pure 2 (.pure 3 (.act 4 (.pure 5 .done)))))) (by kernel_rfl) ?_
    refine rw_p rfl rfl (y_move rfl) ?_
    refine rw_p rfl rfl (y_move rfl) ?_
    refine rw_p rfl rfl (y_index rfl rfl sl27 rfl (by omega) (by omega)) ?_
    refine rw_p rfl rfl (y_elA rfl ag24 (hq.ext0 hm.to).nt encC_len hi) ?_
    refine a_call rfl rfl rfl go18 (r4_len c.cm c.d.p c.d.cap _) fun v w hR => ?_
    obtain ⟨rfl, hE⟩ := hR
    refine ⟨trivial, ?_⟩
    replace hm := hm.ext hE
    refine rw_p rfl rfl (y_gt rfl rfl) ?_
    refine rw_done ?_
    refine gn_sq ?_
    refine HW_cond rfl rfl (fun hc1 => ?_) (fun hc1 => ?_)
    ·
      simp only [Bool.and_eq_true, Bool.or_eq_true, Bool.and_eq_false_iff, Bool.or_eq_false_iff, Bool.not_eq_true', Bool.not_eq_false', decide_eq_true_eq, decide_eq_false_iff_not] at hc1
      refine HW_seq rfl ?_
      refine HW_text (.pure 0 .done) (by kernel_rfl) ?_
      refine rw_p rfl rfl (y_assign rfl) ?_
      refine rw_done ?_
      refine gn_sq ?_
      refine HW_ret rfl ?_
      refine gr_bl (gr_sq (gr_lp (gr_bl (gr_sq ?_))))
      refine toR (fin hret rfl (.tmp rfl .nil) .one ?_)
      exact ⟨⟨_, rfl⟩, hm.to⟩
    ·
      simp only [Bool.and_eq_true, Bool.or_eq_true, Bool.and_eq_false_iff, Bool.or_eq_false_iff, Bool.not_eq_true', Bool.not_eq_false', decide_eq_true_eq, decide_eq_false_iff_not] at hc1
      refine HW_skip rfl ?_
      refine gn_bl ?_
      refine gn_sq ?_
      refine HW_text (.pure 0 (.pure 1 (.pure 2 .done))) (by kernel_rfl) ?_
      refine rw_p rfl rfl (y_move rfl) ?_
      refine rw_p rfl rfl (y_add rfl rfl (i64w (by omega) (by omega))) ?_
      refine rw_p rfl rfl (y_assign rfl) ?_
      refine rw_done ?_
      refine next (k + 1) (by omega) ⟨hm, by omega⟩ ⟨nx k, rfl, trivial⟩
  ·
    simp only [decide_eq_false_iff_not] at hc0
    refine HW_exit rfl ?_
    refine gx_sq (gx_lp ?_)
    refine gx_here ?_
    refine gn_sq ?_
    refine HW_seq rfl ?_
    refine HW_text (.pure 0 .done) (by kernel_rfl) ?_
    refine rw_p rfl rfl (y_assign rfl) ?_
    refine rw_done ?_
    refine gn_sq ?_
    refine HW_ret rfl ?_
    refine toR (fin hret rfl (.tmp rfl .nil) .one ?_)
    exact ⟨⟨_, rfl⟩, hm.to⟩

end Go.Proofs.Ytcngaknlagocdaa
