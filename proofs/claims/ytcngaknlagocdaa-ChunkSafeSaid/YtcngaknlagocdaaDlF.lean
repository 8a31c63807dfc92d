/- Contracts of functions of the program: what each returns. Conditions: the hypotheses of each theorem. -/
import Derived.Test.YtcngaknlagocdaaDlE
set_option linter.unusedVariables false
set_option linter.unusedSimpArgs false
namespace Go.Proofs.Ytcngaknlagocdaa
open Go Go.Cx



set_option maxHeartbeats 800000 in
theorem r8_apply (oo nn : Int) (H : Nat → UInt8) (q : Option Addr) (cq : Nat) (cs : List CmdV) (r : Option Addr) (cr : Nat) (f : List UInt8) (w0 : World) (hq : Rd w0 q (cs.flatMap encC)) (hdl : cs.length ≤ 4611686018427387903) (hok : ∀ c ∈ cs, okC w0 c) (hf : Rd w0 r (f.flatMap encB)) (ho : oo = f.length) (hv : Pl.VD oo nn (cs.map CmdV.cm)) (hn : nn ≤ 3000) : C Try.prog 31 [.slice r f.length cr, .agg ⟨dlV oo nn H q cs.length cq⟩] w0 fun v w' => ∃ (p : Option Addr) (n9 cap g : Nat) (b : Blk), v = .slice p n9 cap ∧ Acc 5 1 p n9 cap ((Pl.apl f (cs.map CmdV.cm) nn.toNat).flatMap encB) g b ∧ Mem w0 w' No [(g, b)] := by
  have hlens := hv.lens
  have hr : ∀ c ∈ cs, Pl.I64 (c.cm.to + Pl.clen c.cm) := fun c hc => by
    have := Pl.ccheck_ok (Pl.single_ok (hv.one c.cm (List.mem_map.2 ⟨c, hc, rfl⟩))).1
    simp only [Pl.I64]; omega
  refine C_of Try.func31 rfl rfl rfl fun κ hret hnorm => ?_
  have hm := Mem.start w0
  refine HW_seq rfl ?_
  refine HW_text (.act 0 (.pure 1 .done)) (by kernel_rfl) ?_
  refine a_box rfl rfl rfl rfl hm trivial fun m1 w hg_m1 hm hh => ?_
  refine rw_p rfl rfl (y_assign rfl) ?_
  refine rw_done ?_
  refine gn_sq ?_
  refine HW_seq rfl ?_
  refine HW_text (.pure 0 .done) (by kernel_rfl) ?_
  refine rw_p rfl rfl (y_assign rfl) ?_
  replace hm := hm.gapIn
  have ha_o := Acc.nil 5 1 none 0
  refine rw_done ?_
  refine gn_sq ?_
  refine HW_seq rfl ?_
  refine HW_seq rfl ?_
  refine HW_text (.pure 0 .done) (by kernel_rfl) ?_
  refine rw_p rfl rfl (y_assign rfl) ?_
  refine rw_done ?_
  refine gn_sq ?_
  refine HW_block rfl ?_
  refine HW_loopK (ι := Nat × Ow) rfl (ks := [0, 3, 4]) (.cons rfl (.cons rfl (.cons rfl .nil))) (fun x => [(6, .int .i64 x.1), (5, .slice x.2.p x.2.n x.2.cap)]) (fun x w => Mem w0 w No [(x.2.g, x.2.b), (m1, .row 43 (dlV oo nn H q cs.length cq))] ∧ Acc 5 1 x.2.p x.2.n x.2.cap ((Pl.apl f (cs.map CmdV.cm) x.1).flatMap encB) x.2.g x.2.b ∧ (x.1 : Int) ≤ nn ∧ x.2.n = x.1) (fun x => nn.toNat - x.1) (0, ⟨none, 0, 0, 0, .gap⟩) (⟨(hm.pick [0, 1] rfl), ha_o, hlens.2.1, rfl⟩) ⟨rfl, rfl, trivial⟩ (fun x w hM => ?_)
  obtain ⟨hm, ha_o, hk, hn9⟩ := hM
  refine HW_seq rfl ?_
  refine HW_seq rfl ?_
  refine HW_text (.pure 0 (.pure 1 (.pure 2 (.pure 3 .done)))) (by kernel_rfl) ?_
  refine rw_p rfl rfl (y_move rfl) ?_
  refine rw_p rfl rfl (y_fieldAddr rfl fo43_1) ?_
  refine rw_p rfl rfl (y_load rfl sc3 (hm.nt 1 rfl) rfl) ?_
  refine rw_p rfl rfl (y_lt rfl rfl) ?_
  refine rw_done ?_
  refine gn_sq ?_
  refine HW_cond rfl rfl (fun hc0 => ?_) (fun hc0 => ?_)
  ·
    simp only [decide_eq_true_eq] at hc0
    obtain ⟨j, c9, hfj, hcj, hbj⟩ := Pl.fnd_some (hv.cov x.1 (by omega) hc0)
    obtain ⟨c, hi, rfl⟩ := cmsOf hcj
    obtain ⟨qb, qo, rfl⟩ := hq.atI encC_len (by decide) hi
    have hjl := (List.getElem?_eq_some_iff.1 hi).1
    have hone := hv.one c.cm (List.mem_of_getElem? hcj)
    obtain ⟨b, hb⟩ := Pl.cbyte_some ho hone hbj
    have hap := Pl.apB_of hfj hcj hb
    obtain ⟨hcc0, hs1, hs2⟩ := Pl.single_ok hone
    have hck := Pl.ccheck_ok hcc0
    have hbb := Pl.hasB_iff.1 hbj
    have k1 : c.cm.k = c.k := rfl
    have k2 : c.cm.to = c.to := rfl
    have k3 : c.cm.fr = c.fr := rfl
    have k4 : c.cm.ln = c.ln := rfl
    have k5 : c.cm.bs = c.d.bs := rfl
    rw [k1, k2, k3, k4, k5] at hck
    rw [k1, k3, k4] at hs1
    rw [k2] at hbb
    have hrd0 := (hok c (List.mem_of_getElem? hi)).2.2.2.2.rd
    refine HW_skip rfl ?_
    refine gn_sq ?_
    refine HW_seq rfl ?_
    refine HW_block rfl ?_
    refine HW_seq rfl ?_
    refine HW_draw (.pure 0 (.pure 1 (.pure 2 (.pure 3 (.act2 4 (.pure 5 (.pure 6 (.act 7 (.cut (.act 8 .done))))) 7 (.act 4 (.pure 5 (.pure 6 (.cut (.act 8 .done)))))))))) No mix (by kernel_rfl) hm fun w hw hm0 hh => ?_
    have hm := hm0
    refine rw_p rfl rfl (y_fieldAddr rfl fo43_4) ?_
    refine rw_p rfl rfl (y_load rfl sc27 (hm0.nd 1 rfl id) rfl) ?_
    refine rw_p rfl rfl (y_loadA (s := 67) (vs := dlV oo nn H _ cs.length cq) rfl ag43 (hm0.nd 1 rfl id) rfl) ?_
    refine rw_p rfl rfl (y_move rfl) ?_
    refine a_two ?_ ?_
    ·
      refine a_call rfl rfl rfl go55 (C.as (r5_find oo nn H _ cq cs x.1 _ (hq.ext0 hm.to) hdl hr) (congrArg (Value.int .i64) hfj)) fun v w hR => ?_
      obtain ⟨rfl, hE⟩ := hR
      refine ⟨hh.ext hE, ?_⟩
      replace hm := hm.ext hE
      replace hh := hh.ext hE
      refine rw_p rfl rfl (y_index rfl rfl sl27 rfl (by omega) (by omega)) ?_
      refine rw_p rfl rfl (y_elA rfl ag24 (hq.ext0 hm0.to).nd encC_len hi) ?_
      refine a_alloc rfl rfl z24 hm hh fun m2 w hg_m2 hm hh => ?_
      refine a_cut ?_
      refine a_store rfl rfl rfl rfl sz24 rfl hm 0 rfl rfl fun w hm => ?_
      refine rw_done ?_
      refine gn_sq ?_
      refine HW_seq rfl ?_
      refine HW_text (.pure 0 (.pure 1 (.pure 2 .done))) (by kernel_rfl) ?_
      refine rw_p rfl rfl (y_fieldAddr rfl fo24_0) ?_
      refine rw_p rfl rfl (y_load rfl sc3 (hm.nt 0 rfl) rfl) ?_
      refine rw_p rfl rfl (y_eq rfl rfl) ?_
      refine rw_done ?_
      refine gn_sq ?_
      refine HW_cond rfl rfl (fun hc1 => ?_) (fun hc1 => ?_)
      ·
        simp only [decide_eq_true_eq] at hc1
        have hbx : f[(c.fr + x.1 - c.to).toNat]? = some b := by
          have := hb
          unfold Pl.cbyte at this
          rw [if_pos (by rw [k1]; exact hc1)] at this
          exact this
        obtain ⟨rb, ro, rfl⟩ := hf.atI encB_len (by decide) hbx
        have hlt := (List.getElem?_eq_some_iff.1 hbx).1
        refine HW_text (.pure 0 (.pure 1 (.pure 2 (.pure 3 (.pure 4 (.pure 5 (.pure 6 (.pure 7 (.pure 8 (.pure 9 (.pure 10 (.act 11 (.act 12 (.pure 13 .done)))))))))))))) (by kernel_rfl) ?_
        refine rw_p rfl rfl (y_move rfl) ?_
        refine rw_p rfl rfl (y_move rfl) ?_
        refine rw_p rfl rfl (y_fieldAddr rfl fo24_2) ?_
        refine rw_p rfl rfl (y_load rfl sc3 (hm.nt 0 rfl) rfl) ?_
        refine rw_p rfl rfl (y_move rfl) ?_
        refine rw_p rfl rfl (y_add rfl rfl (i64w (by omega) (by omega))) ?_
        refine rw_p rfl rfl (y_fieldAddr rfl fo24_1) ?_
        refine rw_p rfl rfl (y_load rfl sc3 (hm.nt 0 rfl) rfl) ?_
        refine rw_p rfl rfl (y_sub rfl rfl (i64w (by omega) (by omega))) ?_
        refine rw_p rfl rfl (y_index rfl rfl sl22 rfl (by omega) (by omega)) ?_
        refine rw_p rfl rfl (y_el1 rfl sc5 (hf.ext0 hm.to).nt encB_len hbx rfl) ?_
        refine a_buildSlice (l := [_]) rfl rfl sl22 z5 rfl rfl rfl rfl rfl rfl rfl hm trivial fun m3 w hg_m3 hm hh => ?_
        refine a_append rfl rfl rfl rfl rfl rfl sl22 sl22 z5 rfl rfl (Rd.row0 (hm.get (k := 0) rfl)) rfl ha_o hm 2 rfl (by omega) (by omega) fun p_o cap_o g_o b_o w ha_o hm => ?_
        refine rw_p rfl rfl (y_assign rfl) ?_
        refine rw_done ?_
        refine gn_bl ?_
        refine gn_sq ?_
        refine HW_text (.pure 0 (.pure 1 (.pure 2 .done))) (by kernel_rfl) ?_
        refine rw_p rfl rfl (y_move rfl) ?_
        refine rw_p rfl rfl (y_add rfl rfl (i64w (by omega) (by omega))) ?_
        refine rw_p rfl rfl (y_assign rfl) ?_
        refine rw_done ?_
        refine next (x.1 + 1, ⟨p_o, _, cap_o, g_o, b_o⟩) (by simp only; omega) ⟨(hm.pick [2, 3] rfl), ha_o.to ?_, by simp only; omega, by simp only; omega⟩ ⟨nx x.1, rfl, rfl, rfl, rfl, trivial⟩
        rw [Pl.apl_next, List.flatMap_append, hap]; rfl
      ·
        simp only [decide_eq_false_iff_not] at hc1
        have hbx : c.d.bs[((x.1 : Int) - c.to).toNat]? = some b := by
          have := hb
          unfold Pl.cbyte at this
          rw [if_neg (by rw [k1]; exact hc1)] at this
          exact this
        obtain ⟨rb, ro, hdp⟩ := hrd0.atI encB_len (by decide) hbx
        have hcr := hdp ▸ hrd0
        have hlt := (List.getElem?_eq_some_iff.1 hbx).1
        refine HW_text (.pure 0 (.pure 1 (.pure 2 (.pure 3 (.pure 4 (.pure 5 (.pure 6 (.pure 7 (.pure 8 (.act 9 (.act 10 (.pure 11 .done)))))))))))) (by kernel_rfl) ?_
        refine rw_p rfl rfl (y_move rfl) ?_
        refine rw_p rfl rfl (y_fieldAddr rfl fo24_4) ?_
        refine rw_p rfl rfl (y_load rfl sc22 (hm.nt 0 rfl) rfl) ?_
        refine rw_p rfl rfl (y_move rfl) ?_
        refine rw_p rfl rfl (y_fieldAddr rfl fo24_1) ?_
        refine rw_p rfl rfl (y_load rfl sc3 (hm.nt 0 rfl) rfl) ?_
        refine rw_p rfl rfl (y_sub rfl rfl (i64w (by omega) (by omega))) ?_
        refine rw_p rfl rfl (y_index rfl rfl sl22 hdp (by omega) (by omega)) ?_
        refine rw_p rfl rfl (y_el1 rfl sc5 (hcr.ext0 hm.to).nt encB_len hbx rfl) ?_
        refine a_buildSlice (l := [_]) rfl rfl sl22 z5 rfl rfl rfl rfl rfl rfl rfl hm trivial fun m3 w hg_m3 hm hh => ?_
        refine a_append rfl rfl rfl rfl rfl rfl sl22 sl22 z5 rfl rfl (Rd.row0 (hm.get (k := 0) rfl)) rfl ha_o hm 2 rfl (by omega) (by omega) fun p_o cap_o g_o b_o w ha_o hm => ?_
        refine rw_p rfl rfl (y_assign rfl) ?_
        refine rw_done ?_
        refine gn_bl ?_
        refine gn_sq ?_
        refine HW_text (.pure 0 (.pure 1 (.pure 2 .done))) (by kernel_rfl) ?_
        refine rw_p rfl rfl (y_move rfl) ?_
        refine rw_p rfl rfl (y_add rfl rfl (i64w (by omega) (by omega))) ?_
        refine rw_p rfl rfl (y_assign rfl) ?_
        refine rw_done ?_
        refine next (x.1 + 1, ⟨p_o, _, cap_o, g_o, b_o⟩) (by simp only; omega) ⟨(hm.pick [2, 3] rfl), ha_o.to ?_, by simp only; omega, by simp only; omega⟩ ⟨nx x.1, rfl, rfl, rfl, rfl, trivial⟩
        rw [Pl.apl_next, List.flatMap_append, hap]; rfl
    ·
      refine a_alloc rfl rfl z24 hm hh fun m2 w hg_m2 hm hh => ?_
      refine a_call rfl rfl rfl go55 (C.as (r5_find oo nn H _ cq cs x.1 _ (hq.ext0 hm.to) hdl hr) (congrArg (Value.int .i64) hfj)) fun v w hR => ?_
      obtain ⟨rfl, hE⟩ := hR
      refine ⟨hh.ext hE, ?_⟩
      replace hm := hm.ext hE
      replace hh := hh.ext hE
      refine rw_p rfl rfl (y_index rfl rfl sl27 rfl (by omega) (by omega)) ?_
      refine rw_p rfl rfl (y_elA rfl ag24 (hq.ext0 hm0.to).nd encC_len hi) ?_
      refine a_cut ?_
      refine a_store rfl rfl rfl rfl sz24 rfl hm 0 rfl rfl fun w hm => ?_
      refine rw_done ?_
      refine gn_sq ?_
      refine HW_seq rfl ?_
      refine HW_text (.pure 0 (.pure 1 (.pure 2 .done))) (by kernel_rfl) ?_
      refine rw_p rfl rfl (y_fieldAddr rfl fo24_0) ?_
      refine rw_p rfl rfl (y_load rfl sc3 (hm.nt 0 rfl) rfl) ?_
      refine rw_p rfl rfl (y_eq rfl rfl) ?_
      refine rw_done ?_
      refine gn_sq ?_
      refine HW_cond rfl rfl (fun hc1 => ?_) (fun hc1 => ?_)
      ·
        simp only [decide_eq_true_eq] at hc1
        have hbx : f[(c.fr + x.1 - c.to).toNat]? = some b := by
          have := hb
          unfold Pl.cbyte at this
          rw [if_pos (by rw [k1]; exact hc1)] at this
          exact this
        obtain ⟨rb, ro, rfl⟩ := hf.atI encB_len (by decide) hbx
        have hlt := (List.getElem?_eq_some_iff.1 hbx).1
        refine HW_text (.pure 0 (.pure 1 (.pure 2 (.pure 3 (.pure 4 (.pure 5 (.pure 6 (.pure 7 (.pure 8 (.pure 9 (.pure 10 (.act 11 (.act 12 (.pure 13 .done)))))))))))))) (by kernel_rfl) ?_
        refine rw_p rfl rfl (y_move rfl) ?_
        refine rw_p rfl rfl (y_move rfl) ?_
        refine rw_p rfl rfl (y_fieldAddr rfl fo24_2) ?_
        refine rw_p rfl rfl (y_load rfl sc3 (hm.nt 0 rfl) rfl) ?_
        refine rw_p rfl rfl (y_move rfl) ?_
        refine rw_p rfl rfl (y_add rfl rfl (i64w (by omega) (by omega))) ?_
        refine rw_p rfl rfl (y_fieldAddr rfl fo24_1) ?_
        refine rw_p rfl rfl (y_load rfl sc3 (hm.nt 0 rfl) rfl) ?_
        refine rw_p rfl rfl (y_sub rfl rfl (i64w (by omega) (by omega))) ?_
        refine rw_p rfl rfl (y_index rfl rfl sl22 rfl (by omega) (by omega)) ?_
        refine rw_p rfl rfl (y_el1 rfl sc5 (hf.ext0 hm.to).nt encB_len hbx rfl) ?_
        refine a_buildSlice (l := [_]) rfl rfl sl22 z5 rfl rfl rfl rfl rfl rfl rfl hm trivial fun m3 w hg_m3 hm hh => ?_
        refine a_append rfl rfl rfl rfl rfl rfl sl22 sl22 z5 rfl rfl (Rd.row0 (hm.get (k := 0) rfl)) rfl ha_o hm 2 rfl (by omega) (by omega) fun p_o cap_o g_o b_o w ha_o hm => ?_
        refine rw_p rfl rfl (y_assign rfl) ?_
        refine rw_done ?_
        refine gn_bl ?_
        refine gn_sq ?_
        refine HW_text (.pure 0 (.pure 1 (.pure 2 .done))) (by kernel_rfl) ?_
        refine rw_p rfl rfl (y_move rfl) ?_
        refine rw_p rfl rfl (y_add rfl rfl (i64w (by omega) (by omega))) ?_
        refine rw_p rfl rfl (y_assign rfl) ?_
        refine rw_done ?_
        refine next (x.1 + 1, ⟨p_o, _, cap_o, g_o, b_o⟩) (by simp only; omega) ⟨(hm.pick [2, 3] rfl), ha_o.to ?_, by simp only; omega, by simp only; omega⟩ ⟨nx x.1, rfl, rfl, rfl, rfl, trivial⟩
        rw [Pl.apl_next, List.flatMap_append, hap]; rfl
      ·
        simp only [decide_eq_false_iff_not] at hc1
        have hbx : c.d.bs[((x.1 : Int) - c.to).toNat]? = some b := by
          have := hb
          unfold Pl.cbyte at this
          rw [if_neg (by rw [k1]; exact hc1)] at this
          exact this
        obtain ⟨rb, ro, hdp⟩ := hrd0.atI encB_len (by decide) hbx
        have hcr := hdp ▸ hrd0
        have hlt := (List.getElem?_eq_some_iff.1 hbx).1
        refine HW_text (.pure 0 (.pure 1 (.pure 2 (.pure 3 (.pure 4 (.pure 5 (.pure 6 (.pure 7 (.pure 8 (.act 9 (.act 10 (.pure 11 .done)))))))))))) (by kernel_rfl) ?_
        refine rw_p rfl rfl (y_move rfl) ?_
        refine rw_p rfl rfl (y_fieldAddr rfl fo24_4) ?_
        refine rw_p rfl rfl (y_load rfl sc22 (hm.nt 0 rfl) rfl) ?_
        refine rw_p rfl rfl (y_move rfl) ?_
        refine rw_p rfl rfl (y_fieldAddr rfl fo24_1) ?_
        refine rw_p rfl rfl (y_load rfl sc3 (hm.nt 0 rfl) rfl) ?_
        refine rw_p rfl rfl (y_sub rfl rfl (i64w (by omega) (by omega))) ?_
        refine rw_p rfl rfl (y_index rfl rfl sl22 hdp (by omega) (by omega)) ?_
        refine rw_p rfl rfl (y_el1 rfl sc5 (hcr.ext0 hm.to).nt encB_len hbx rfl) ?_
        refine a_buildSlice (l := [_]) rfl rfl sl22 z5 rfl rfl rfl rfl rfl rfl rfl hm trivial fun m3 w hg_m3 hm hh => ?_
        refine a_append rfl rfl rfl rfl rfl rfl sl22 sl22 z5 rfl rfl (Rd.row0 (hm.get (k := 0) rfl)) rfl ha_o hm 2 rfl (by omega) (by omega) fun p_o cap_o g_o b_o w ha_o hm => ?_
        refine rw_p rfl rfl (y_assign rfl) ?_
        refine rw_done ?_
        refine gn_bl ?_
        refine gn_sq ?_
        refine HW_text (.pure 0 (.pure 1 (.pure 2 .done))) (by kernel_rfl) ?_
        refine rw_p rfl rfl (y_move rfl) ?_
        refine rw_p rfl rfl (y_add rfl rfl (i64w (by omega) (by omega))) ?_
        refine rw_p rfl rfl (y_assign rfl) ?_
        refine rw_done ?_
        refine next (x.1 + 1, ⟨p_o, _, cap_o, g_o, b_o⟩) (by simp only; omega) ⟨(hm.pick [2, 3] rfl), ha_o.to ?_, by simp only; omega, by simp only; omega⟩ ⟨nx x.1, rfl, rfl, rfl, rfl, trivial⟩
        rw [Pl.apl_next, List.flatMap_append, hap]; rfl
  ·
    simp only [decide_eq_false_iff_not] at hc0
    have hke : x.1 = nn.toNat := by omega
    rw [hke] at ha_o
    refine HW_exit rfl ?_
    refine gx_sq (gx_lp ?_)
    refine gx_here ?_
    refine gn_sq ?_
    refine HW_seq rfl ?_
    refine HW_text (.pure 0 (.pure 1 .done)) (by kernel_rfl) ?_
    refine rw_p rfl rfl (y_move rfl) ?_
    refine rw_p rfl rfl (y_assign rfl) ?_
    refine rw_done ?_
    refine gn_sq ?_
    refine HW_ret rfl ?_
    refine toR (fin hret rfl (.tmp rfl .nil) .one ?_)
    exact ⟨_, _, _, _, _, rfl, ha_o, (hm.pick [0] rfl)⟩

end Go.Proofs.Ytcngaknlagocdaa
