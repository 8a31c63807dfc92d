/- Contracts of functions of the program: what each returns. Conditions: the hypotheses of each theorem. -/
import Derived.Test.YtcngaknlagocdaaLaw
set_option linter.unusedVariables false
set_option linter.unusedSimpArgs false
namespace Go.Proofs.Ytcngaknlagocdaa
open Go Go.Cx

theorem go10 : isGo Try.prog 10 = true := by kernel_rfl
theorem go25 : isGo Try.prog 25 = true := by kernel_rfl
theorem go26 : isGo Try.prog 26 = true := by kernel_rfl
theorem go27 : isGo Try.prog 27 = true := by kernel_rfl
theorem go28 : isGo Try.prog 28 = true := by kernel_rfl
theorem go29 : isGo Try.prog 29 = true := by kernel_rfl
theorem go30 : isGo Try.prog 30 = true := by kernel_rfl
theorem go31 : isGo Try.prog 31 = true := by kernel_rfl
theorem is5 : (Try.prog.underlying 5).isSome = true := by kernel_rfl

set_option maxHeartbeats 2000000 in
theorem law_safe (oo nn : Int) (H : Nat → UInt8) (q : Option Addr) (cq : Nat) (cs : List CmdV) (r : Option Addr) (cr : Nat) (f : List UInt8) (sz : Int) (w0 : World) (hfb : SB.ok w0 ⟨r, cr, f⟩) (h1 : Pl.I64 oo) (h2 : Pl.I64 nn) (hq : Rd w0 q (cs.flatMap encC)) (hok : ∀ c ∈ cs, okC w0 c) (hsz : 0 ≤ sz ∧ sz ≤ 255) : C Try.prog 7 [.slice r f.length cr, .agg ⟨dlV oo nn H q cs.length cq⟩, .int .u8 sz] w0 fun v w' => v = .bool true ∧ Ext No w0 w' := by
  have hfr : Rd w0 r (f.flatMap encB) := hfb.rd
  have hf1 := hfb.le
  have hf2 := hfb.max
  simp only at hf1 hf2
  have htm : 0 ≤ sz.tmod 30 ∧ sz.tmod 30 ≤ 29 := ⟨Int.tmod_nonneg _ hsz.1, by have := Int.tmod_lt_of_pos sz (by decide : (0 : Int) < 30); omega⟩
  obtain ⟨s, hs9⟩ : ∃ z : Int, z = sz.tmod 30 + 1 := ⟨_, rfl⟩
  have hs1 : 1 ≤ s ∧ s ≤ 30 := by omega
  have hs : Pl.I64 s := ⟨by omega, by omega⟩
  refine C_of Try.func7 rfl rfl rfl fun κ hret hnorm => ?_
  have hm := Mem.start w0
  refine HW_seq rfl ?_
  refine HW_text (.act 0 (.pure 1 .done)) (by kernel_rfl) ?_
  refine a_box rfl rfl rfl rfl hm trivial fun m1 w hg_m1 hm hh => ?_
  refine rw_p rfl rfl (y_assign rfl) ?_
  refine rw_done ?_
  refine gn_sq ?_
  refine HW_seq rfl ?_
  refine HW_seq rfl ?_
  by_cases h300 : f.length ≤ 300
  by_cases hsm : (decide ((cs.length : Int) ≤ 20) && ((cs.all (fun c => decide (c.d.bs.length ≤ 300)) && decide (cs.length ≤ 40)) && decide (nn ≤ 1000) && Pl.vdB oo nn (cs.map CmdV.cm))) = true
  by_cases hft : ((cs.all (fun c => decide (c.d.bs.length ≤ 300)) && decide (cs.length ≤ 40)) && Pl.vdB oo nn (cs.map CmdV.cm) && decide (oo = f.length) && decide (nn ≤ 3000)) = true
  ·
    have hsm2 := hsm
    simp only [Bool.and_eq_true, decide_eq_true_eq] at hsm2
    have h20 := hsm2.1
    have hft2 := hft
    simp only [Bool.and_eq_true, decide_eq_true_eq] at hft2
    have hvd := Pl.vdB_iff.1 hsm2.2.2
    have ho : oo = f.length := hft2.1.2
    have hn1 : nn ≤ 1000 := hsm2.2.1.2
    have hlens := hvd.lens
    have hone : ∀ c ∈ cs, Pl.single oo nn c.cm = 0 := fun c hc => hvd.one c.cm (List.mem_map.2 ⟨c, hc, rfl⟩)
    have hcc : ∀ c ∈ cs, Pl.ccheck c.cm = 0 := fun c hc => (Pl.single_ok (hone c hc)).1
    have hcn : ∀ c ∈ cs, Pl.chCount c.cm s ≤ 1000 ∧ c.d.bs.length ≤ 1000 := fun c hc => by
      obtain ⟨a1, a2, a3⟩ := Pl.single_ok (hone c hc)
      have a4 := Pl.chCount_pos a1 hs1.1
      have a5 := Pl.ccheck_ok a1
      have a6 : c.cm.bs = c.d.bs := rfl
      rw [a6] at a5
      refine ⟨by omega, ?_⟩
      rcases a5.1 with h | h
      · rw [h.2.2.1]; simp
      · omega
    have hbd : (Pl.chAll s (cs.map CmdV.cm)).length ≤ 1000 * cs.length := by
      rw [← List.length_map (f := CmdV.cm)]
      exact Pl.chAll_le (by omega) fun d hd => by obtain ⟨c, hc, rfl⟩ := List.mem_map.1 hd; exact ⟨hcc c hc, (hcn c hc).1⟩
    refine HW_draw (.pure 0 (.pure 1 (.pure 2 (.pure 3 (.pure 4 (.act 5 (.pure 6 (.pure 7 (.pure 8 (.pure 9 (.pure 10 (.act 11 (.pure 12 (.pure 13 (.pure 14 (.pure 15 (.pure 16 (.pure 17 (.pure 18 (.act 19 (.cut (.act 20 (.pure 21 (.pure 22 (.pure 23 .done))))))))))))))))))))))))) No mix (by kernel_rfl) hm fun w hw hm0 hh => ?_
    have hm := hm0
    refine rw_p rfl rfl (y_move rfl) ?_
    refine rw_p rfl rfl (y_len rfl rfl sl22) ?_
    refine rw_p rfl rfl (y_as (c := false) (y_gt rfl rfl) (decide_eq_false (by omega))) ?_
    refine rw_p rfl rfl (y_move rfl) ?_
    refine rw_p rfl rfl (y_loadA (s := 67) (vs := dlV oo nn H _ cs.length cq) rfl ag43 (hm0.nd 0 rfl id) rfl) ?_
    refine a_call rfl rfl rfl go25 (C.as (v := .bool true) (r15_small oo nn H q cq cs _ h1 h2 (hq.ext0 hm.to) (fun c hc => okC.mono (hok c hc) hm.to)) (congrArg Value.bool hsm)) fun v w hR => ?_
    obtain ⟨rfl, hE⟩ := hR
    refine ⟨hh.ext hE, ?_⟩
    replace hm := hm.ext hE
    replace hh := hh.ext hE
    refine rw_p rfl rfl (y_not rfl) ?_
    refine rw_p rfl rfl (y_pickF rfl rfl) ?_
    refine rw_p rfl rfl (y_move rfl) ?_
    refine rw_p rfl rfl (y_move rfl) ?_
    refine rw_p rfl rfl (y_loadA (s := 67) (vs := dlV oo nn H _ cs.length cq) rfl ag43 (hm0.nd 0 rfl id) rfl) ?_
    refine a_call rfl rfl rfl go26 (C.as (v := .bool true) (r8_fits oo nn H q cq cs r cr f _ h1 h2 (hq.ext0 hm.to) (by omega) (fun c hc => okC.mono (hok c hc) hm.to)) (congrArg Value.bool hft)) fun v w hR => ?_
    obtain ⟨rfl, hE⟩ := hR
    refine ⟨hh.ext hE, ?_⟩
    replace hm := hm.ext hE
    replace hh := hh.ext hE
    refine rw_p rfl rfl (y_not rfl) ?_
    refine rw_p rfl rfl (y_pickF rfl rfl) ?_
    refine rw_p rfl rfl (y_move rfl) ?_
    refine rw_p rfl rfl (y_fieldAddr rfl fo43_4) ?_
    refine rw_p rfl rfl (y_load rfl sc27 (hm0.nd 0 rfl id) rfl) ?_
    refine rw_p rfl rfl (y_fieldAddr rfl fo43_4) ?_
    refine rw_p rfl rfl (y_load rfl sc27 (hm0.nd 0 rfl id) rfl) ?_
    refine a_call rfl rfl rfl go28 (law_places q cq cs.length _ (by omega)) fun v w hR => ?_
    obtain ⟨p_pl, n_pl, cap_pl, g_pl, b_pl, rfl, ha_pl, hmc, hn_pl⟩ := hR
    subst hn_pl
    refine ⟨hh.ext hmc.to, ?_⟩
    replace hh := hh.ext hmc.to
    replace hm := hm.callN hmc
    refine a_cut ?_
    refine a_call rfl rfl rfl go27 (r12_viol q cq cs p_pl cap_pl _ (hq.ext0 hm.to) (by omega) hcc (ha_pl.rd hm 0 rfl)) fun v w hR => ?_
    obtain ⟨⟨p_v, n_v, cap_v, rfl, hsafe⟩, hE⟩ := hR
    refine ⟨trivial, ?_⟩
    replace hm := hm.ext hE
    refine rw_p rfl rfl (y_len rfl rfl sl46) ?_
    refine rw_p rfl rfl (y_gt rfl rfl) ?_
    refine rw_p rfl rfl (y_pickF rfl rfl) ?_
    refine rw_done ?_
    refine gn_sq ?_
    refine HW_cond rfl rfl (fun hc0 => ?_) (fun hc0 => ?_)
    ·
      refine HW_seq rfl ?_
      refine HW_text (.act 0 (.pure 1 .done)) (by kernel_rfl) ?_
      refine a_call rfl rfl rfl go10 (law_alive _) fun v w hR => ?_
      obtain ⟨rfl, hE⟩ := hR
      refine ⟨trivial, ?_⟩
      replace hm := hm.ext hE
      refine rw_p rfl rfl (y_assign rfl) ?_
      refine rw_done ?_
      refine gn_sq ?_
      refine HW_ret rfl ?_
      refine gr_sq ?_
      refine toR (fin hret rfl (.tmp rfl .nil) .one ?_)
      exact ⟨rfl, hm.to⟩
    ·
      have hnv : n_v = 0 := by simp at hc0; omega
      have hsf := hsafe hnv
      obtain ⟨R, hR9, hRl, hRt⟩ := Pl.exec_chunks ho hvd hsf hs1.1 (by omega)
      have hel := Pl.extd_length f nn
      have htl : (R.take nn.toNat).length = nn.toNat := by rw [List.length_take]; omega
      refine HW_skip rfl ?_
      refine gn_sq ?_
      refine HW_seq rfl ?_
      refine HW_text (.pure 0 (.pure 1 (.pure 2 (.pure 3 (.pure 4 .done))))) (by kernel_rfl) ?_
      refine rw_p rfl rfl (y_move rfl) ?_
      refine rw_p rfl rfl (y_conv rfl is5 it3 (i64w (by omega) (by omega))) ?_
      refine rw_p rfl rfl (y_rem rfl rfl (by omega) rfl) ?_
      refine rw_p rfl rfl (y_v (y_add rfl rfl (i64w (by omega) (by omega))) (show _ = Value.int .i64 s by rw [hs9])) ?_
      refine rw_p rfl rfl (y_assign rfl) ?_
      refine rw_done ?_
      refine gn_sq ?_
      refine HW_via (ι := Ow) rfl (ks := [0, 4, 6, 7]) (.cons rfl (.cons rfl (.cons rfl (.cons rfl .nil)))) (fun y => [(8, .slice y.p y.n y.cap), (9, .bool true)]) (fun y w => Mem w0 w No [(y.g, y.b), (m1, .row 43 (dlV oo nn H q cs.length cq))] ∧ Acc 5 1 y.p y.n y.cap (R.flatMap encB) y.g y.b) ?_ (fun y w hM => ?_)
      ·
        refine HW_draw (.pure 0 (.pure 1 (.pure 2 (.pure 4 (.pure 5 (.pure 6 (.act 3 (.act 7 (.act 8 (.pure 9 (.pure 10 (.pure 11 (.pure 12 (.pure 13 .done)))))))))))))) No mix (by kernel_rfl) hm fun w hw hm0 hh => ?_
        have hm := hm0
        refine rw_p rfl rfl (y_move rfl) ?_
        refine rw_p rfl rfl (y_fieldAddr rfl fo43_1) ?_
        refine rw_p rfl rfl (y_load rfl sc3 (hm0.nd 1 rfl id) rfl) ?_
        refine rw_p rfl rfl (y_move rfl) ?_
        refine rw_p rfl rfl (y_fieldAddr rfl fo43_4) ?_
        refine rw_p rfl rfl (y_load rfl sc27 (hm0.nd 1 rfl id) rfl) ?_
        refine a_call rfl rfl rfl go30 (r16_ext r cr f nn _ (hfr.ext0 hm.to) (by omega) (by omega)) fun v w hR => ?_
        obtain ⟨p_x, n_x, cap_x, g_x, b_x, rfl, ha_x, hmc⟩ := hR
        refine ⟨hh.ext hmc.to, ?_⟩
        replace hh := hh.ext hmc.to
        replace hm := hm.callN hmc
        obtain rfl := ha_x.lenB
        refine a_call rfl rfl rfl go20 (ch_all s q cq cs _ (hq.ext0 hm.to) (fun c hc => ⟨hcc c hc, (hok c hc).2.2.2.2.ext hm.to, by have := (hcn c hc).2; omega⟩) hs (by omega) (by omega)) fun v w hR => ?_
        obtain ⟨xs_t, p_t, n_t, cap_t, g_t, b_t, B_t, rfl, ha_t, hx_t, hh_t, hmc⟩ := hR
        refine ⟨hh.ext hmc.to, ?_⟩
        replace hh := hh.ext hmc.to
        replace hm := hm.callT1 hmc
        obtain rfl := ha_t.lenE encC_len (by decide)
        have hxl := congrArg List.length hx_t
        rw [List.length_map] at hxl
        have hok9 : ∀ y ∈ xs_t, Pl.ccheck y.cm = 0 := fun y hy => by
          have hm9 : y.cm ∈ Pl.chAll s (cs.map CmdV.cm) := by rw [← hx_t]; exact List.mem_map.2 ⟨y, hy, rfl⟩
          obtain ⟨d, hd, hm8⟩ := List.mem_flatMap.1 hm9
          obtain ⟨c, hc, rfl⟩ := List.mem_map.1 hd
          exact Pl.chunks_ok (hcc c hc) _ hm8
        refine a_call rfl rfl rfl go29 (s_execute p_x cap_x (Pl.extd f nn) p_t cap_t xs_t _ (ha_x.rd hm 1 rfl) (ha_t.rd hm 0 rfl) (fun y hy => ⟨hok9 y hy, (hh_t y hy).rd hm (by intro e he; simp [he])⟩) (by omega) (by omega)) fun v w hR => ?_
        rw [hx_t, hR9] at hR
        simp only [Option.isSome_some, Option.getD_some] at hR
        obtain ⟨n_a, cap_a, g_a, b_a, p_a, rfl, ha_a, hn_a, hmc⟩ := hR
        subst hn_a
        refine ⟨hh.ext hmc.to, ?_⟩
        replace hh := hh.ext hmc.to
        replace hm := hm.callN hmc
        refine rw_p rfl rfl (y_move rfl) ?_
        refine rw_p rfl rfl (y_extract rfl rfl) ?_
        refine rw_p rfl rfl (y_extract rfl rfl) ?_
        refine rw_p rfl rfl (y_assign rfl) ?_
        refine rw_p rfl rfl (y_assign rfl) ?_
        refine rw_done ?_
        exact gn_vi ⟨p_a, _, cap_a, g_a, b_a⟩ ⟨(hm.pick [0, 4] rfl), ha_a⟩ ⟨rfl, rfl, rfl, rfl, rfl, rfl, trivial⟩
      ·
        obtain ⟨p_a, n_a, cap_a, g_a, b_a⟩ := y
        obtain ⟨hm, ha_a⟩ := hM
        simp only at hm ha_a
        obtain rfl := ha_a.lenB
        have hca := ha_a.le
        refine HW_seq rfl ?_
        refine HW_seq rfl ?_
        refine HW_draw (.pure 0 (.pure 1 (.pure 2 (.pure 3 (.pure 4 (.pure 5 (.pure 6 (.pure 7 (.pure 8 (.pure 9 (.pure 10 (.pure 11 (.pure 12 (.pure 13 (.pure 14 (.pure 15 (.pure 16 (.act 17 (.act 18 (.pure 19 (.pure 20 .done))))))))))))))))))))) No mix (by kernel_rfl) hm fun w hw hm0 hh => ?_
        have hm := hm0
        refine rw_p rfl rfl (y_move rfl) ?_
        refine rw_p rfl rfl (y_not rfl) ?_
        refine rw_p rfl rfl (y_move rfl) ?_
        refine rw_p rfl rfl (y_move rfl) ?_
        refine rw_p rfl rfl (y_len rfl rfl sl22) ?_
        refine rw_p rfl rfl (y_fieldAddr rfl fo43_1) ?_
        refine rw_p rfl rfl (y_load rfl sc3 (hm0.nd 1 rfl id) rfl) ?_
        refine rw_p rfl rfl (y_as (c := false) (y_lt rfl rfl) (decide_eq_false (by simp only; omega))) ?_
        refine rw_p rfl rfl (y_pickF rfl rfl) ?_
        refine rw_p rfl rfl (y_move rfl) ?_
        refine rw_p rfl rfl (y_move rfl) ?_
        refine rw_p rfl rfl (y_fieldAddr rfl fo43_1) ?_
        refine rw_p rfl rfl (y_load rfl sc3 (hm0.nd 1 rfl id) rfl) ?_
        refine rw_p rfl rfl (y_v (y_slice (ln := 0) (hn := nn.toNat) rfl sl22 rfl ⟨_, congrArg (fun x => some (Value.int .i64 x)) (by omega)⟩ (Nat.zero_le _) (by simp only; omega) (fun h => ha_a.spot h)) (show _ = Value.slice p_a (R.take nn.toNat).length cap_a by rw [slp_zero' (fun h => ha_a.spot h), htl]; rfl)) ?_
        refine rw_p rfl rfl (y_cvs rfl bt22_9 (((ha_a.rd hm0 0 rfl).takeB _).nd) rfl) ?_
        refine rw_p rfl rfl (y_move rfl) ?_
        refine rw_p rfl rfl (y_loadA (s := 67) (vs := dlV oo nn H _ cs.length cq) rfl ag43 (hm0.nd 1 rfl id) rfl) ?_
        refine a_call rfl rfl rfl go31 (r8_apply oo nn H q cq cs r cr f _ (hq.ext0 hm.to) (by omega) (fun c hc => okC.mono (hok c hc) hm.to) (hfr.ext0 hm.to) ho hvd (by omega)) fun v w hR => ?_
        obtain ⟨p_u, n_u, cap_u, g_u, b_u, rfl, ha_u, hmc⟩ := hR
        refine ⟨hh.ext hmc.to, ?_⟩
        replace hh := hh.ext hmc.to
        replace hm := hm.callN hmc
        refine a_pure rfl rfl rfl (y_cvs rfl bt22_9 ((ha_u.rd hm 0 rfl).nt) ha_u.lenB) hh ?_
        refine rw_p rfl rfl (y_as (c := false) (y_snqB rfl rfl) (by simp [hRt])) ?_
        refine rw_p rfl rfl (y_pickF rfl rfl) ?_
        refine rw_done ?_
        refine gn_sq ?_
        refine HW_condF rfl rfl rfl ?_
        refine HW_skip rfl ?_
        refine gn_sq ?_
        refine HW_seq rfl ?_
        refine HW_text (.pure 0 .done) (by kernel_rfl) ?_
        refine rw_p rfl rfl (y_assign rfl) ?_
        replace hm := hm.gapIn
        have ha_o := Acc.nil 24 5 none 0
        refine rw_done ?_
        refine gn_sq ?_
        refine HW_seq rfl ?_
        refine HW_seq rfl ?_
        refine HW_text (.pure 0 (.pure 1 (.pure 2 (.pure 3 .done)))) (by kernel_rfl) ?_
        refine rw_p rfl rfl (y_fieldAddr rfl fo43_4) ?_
        refine rw_p rfl rfl (y_load rfl sc27 (hm.nt 3 rfl) rfl) ?_
        refine rw_p rfl rfl (y_len rfl rfl sl27) ?_
        refine rw_p rfl rfl (y_move rfl) ?_
        refine rw_done ?_
        refine gn_sq ?_
        refine HW_block rfl ?_
        refine HW_loopK (ι := Nat × Ow) rfl (ks := [7, 80, 81]) (.cons rfl (.cons rfl (.cons rfl .nil))) (fun x => [(82, .int .i64 x.1), (10, .slice x.2.p x.2.n x.2.cap)]) (fun x w => Mem w0 w No [(x.2.g, x.2.b), (m1, .row 43 (dlV oo nn H q cs.length cq))] ∧ Acc 24 5 x.2.p x.2.n x.2.cap ((cs.take x.1).flatMap encC) x.2.g x.2.b ∧ x.1 ≤ cs.length ∧ x.2.n = x.1) (fun x => cs.length - x.1) (0, ⟨none, 0, 0, 0, .gap⟩) (⟨(hm.pick [0, 3] rfl), ha_o, Nat.zero_le _, rfl⟩) ⟨rfl, rfl, trivial⟩ (fun x w hM => ?_)
        obtain ⟨k, p_o, n_o, cap_o, g_o, b_o⟩ := x
        obtain ⟨hm, ha_o, hk, hn9⟩ := hM
        simp only at hm ha_o hk hn9
        refine HW_seq rfl ?_
        refine HW_text (.pure 0 .done) (by kernel_rfl) ?_
        refine rw_p rfl rfl (y_lt rfl rfl) ?_
        refine rw_done ?_
        refine gn_sq ?_
        refine HW_seq rfl ?_
        refine HW_cond rfl rfl (fun hc2 => ?_) (fun hc2 => ?_)
        ·
          simp only [decide_eq_true_eq] at hc2
          obtain ⟨c, hi⟩ : ∃ y_, cs[k]? = some y_ := ⟨_, List.getElem?_eq_getElem (by omega)⟩
          obtain ⟨qb, qo, rfl⟩ := hq.atI encC_len (by decide) hi
          have hcm := List.mem_of_getElem? hi
          have hcx := hcc c hcm
          have hcnc := hcn c hcm
          have hbok := (hok c hcm).2.2.2.2
          have hnn := Pl.chCount_nonneg (s := s) hcx
          refine HW_skip rfl ?_
          refine gn_sq ?_
          refine HW_seq rfl ?_
          refine HW_block rfl ?_
          refine HW_seq rfl ?_
          refine HW_text (.pure 0 (.pure 1 (.act 2 (.act 3 .done)))) (by kernel_rfl) ?_
          refine rw_p rfl rfl (y_index rfl rfl sl27 rfl (by omega) (by omega)) ?_
          refine rw_p rfl rfl (y_elA rfl ag24 (hq.ext0 hm.to).nt encC_len hi) ?_
          refine a_alloc rfl rfl z24 hm trivial fun k2 w hg_k2 hm hh => ?_
          refine a_store rfl rfl rfl rfl sz24 rfl hm 0 rfl rfl fun w hm => ?_
          refine rw_done ?_
          refine gn_sq ?_
          refine HW_seq rfl ?_
          refine HW_seq rfl ?_
          refine HW_text (.pure 0 (.pure 1 (.act 2 (.pure 3 (.pure 4 .done))))) (by kernel_rfl) ?_
          refine rw_p rfl rfl (y_loadA (s := 5) (vs := [_, _, _, _, _]) rfl ag24 (hm.nt 0 rfl) rfl) ?_
          refine rw_p rfl rfl (y_move rfl) ?_
          refine a_call rfl rfl rfl go11 (ch_split c.cm c.d.p c.d.cap s _ (hbok.ext hm.to) (by have : c.cm.bs.length = c.d.bs.length := rfl; omega) hcx hs) fun v w hR => ?_
          obtain ⟨xs_t, p_t, n_t, cap_t, g_t, b_t, B_t, rfl, ha_t, hx_t, hh_t, hmc⟩ := hR
          refine ⟨trivial, ?_⟩
          replace hm := hm.callT1 hmc
          obtain rfl := ha_t.lenE encC_len (by decide)
          have hxl := congrArg List.length hx_t
          rw [List.length_map] at hxl
          have hcu := Pl.chunks_count hnn.1 (by omega)
          refine rw_p rfl rfl (y_len rfl rfl sl27) ?_
          refine rw_p rfl rfl (y_move rfl) ?_
          refine rw_done ?_
          refine gn_sq ?_
          refine HW_block rfl ?_
          refine HW_loopK (ι := Nat) rfl (ks := [7, 10, 12, 80, 81, 82, 88, 89]) (.cons rfl (.cons rfl (.cons rfl (.cons rfl (.cons rfl (.cons rfl (.cons rfl (.cons rfl .nil)))))))) (fun y => [(90, .int .i64 y)]) (fun y w => Mem w0 w No ((g_t, b_t) :: (k2, .row 24 (encC c)) :: (g_o, b_o) :: (m1, .row 43 (dlV oo nn H (some ⟨qb, qo, none⟩) cs.length cq)) :: B_t) ∧ y ≤ xs_t.length) (fun y => xs_t.length - y) 0 (⟨(hm.pickT [0, 1, 2, 3] 4 rfl), Nat.zero_le _⟩) ⟨rfl, trivial⟩ (fun y w hM => ?_)
          obtain ⟨hm, hy0⟩ := hM
          refine HW_seq rfl ?_
          refine HW_text (.pure 0 .done) (by kernel_rfl) ?_
          refine rw_p rfl rfl (y_lt rfl rfl) ?_
          refine rw_done ?_
          refine gn_sq ?_
          refine HW_seq rfl ?_
          refine HW_cond rfl rfl (fun hc3 => ?_) (fun hc3 => ?_)
          ·
            simp only [decide_eq_true_eq] at hc3
            obtain ⟨e, hi2⟩ : ∃ y_, xs_t[y]? = some y_ := ⟨_, List.getElem?_eq_getElem (by omega)⟩
            obtain ⟨qb2, qo2, rfl⟩ := (ha_t.rd hm 0 rfl).atI encC_len (by decide) hi2
            have hme : e.cm ∈ Pl.chunks c.cm s := by rw [← hx_t]; exact List.mem_map.2 ⟨e, List.mem_of_getElem? hi2, rfl⟩
            have hce := Pl.chunks_ok hcx _ hme
            refine HW_skip rfl ?_
            refine gn_sq ?_
            refine HW_seq rfl ?_
            refine HW_block rfl ?_
            refine HW_seq rfl ?_
            refine HW_text (.pure 0 (.pure 1 (.act 2 (.act 3 .done)))) (by kernel_rfl) ?_
            refine rw_p rfl rfl (y_index rfl rfl sl27 rfl (by omega) (by omega)) ?_
            refine rw_p rfl rfl (y_elA rfl ag24 (ha_t.rd hm 0 rfl).nt encC_len hi2) ?_
            refine a_alloc rfl rfl z24 hm trivial fun k3 w hg_k3 hm hh => ?_
            refine a_store rfl rfl rfl rfl sz24 rfl hm 0 rfl rfl fun w hm => ?_
            refine rw_done ?_
            refine gn_sq ?_
            refine HW_seq rfl ?_
            refine HW_text (.pure 0 (.pure 1 (.pure 2 .done))) (by kernel_rfl) ?_
            refine rw_p rfl rfl (y_move rfl) ?_
            refine rw_p rfl rfl (y_len rfl rfl sl27) ?_
            refine rw_p rfl rfl (y_move rfl) ?_
            refine rw_done ?_
            refine gn_sq ?_
            refine HW_block rfl ?_
            refine HW_loopK (ι := Nat) rfl (ks := [7, 10, 12, 14, 80, 81, 82, 88, 89, 90, 94, 95]) (.cons rfl (.cons rfl (.cons rfl (.cons rfl (.cons rfl (.cons rfl (.cons rfl (.cons rfl (.cons rfl (.cons rfl (.cons rfl (.cons rfl .nil)))))))))))) (fun z => [(96, .int .i64 z)]) (fun z w => Mem w0 w No ((k3, .row 24 (encC e)) :: (g_t, b_t) :: (k2, .row 24 (encC c)) :: (g_o, b_o) :: (m1, .row 43 (dlV oo nn H (some ⟨qb, qo, none⟩) cs.length cq)) :: B_t) ∧ z ≤ k) (fun z => k - z) 0 (⟨(hm.pickT [0, 1, 2, 3, 4] 5 rfl), Nat.zero_le _⟩) ⟨rfl, trivial⟩ (fun z w hM => ?_)
            obtain ⟨hm, hz0⟩ := hM
            refine HW_seq rfl ?_
            refine HW_text (.pure 0 .done) (by kernel_rfl) ?_
            refine rw_p rfl rfl (y_lt rfl rfl) ?_
            refine rw_done ?_
            refine gn_sq ?_
            refine HW_seq rfl ?_
            refine HW_cond rfl rfl (fun hc4 => ?_) (fun hc4 => ?_)
            ·
              simp only [decide_eq_true_eq] at hc4
              obtain ⟨d, hj⟩ : ∃ y_, (cs.take k)[z]? = some y_ := ⟨_, List.getElem?_eq_getElem (by rw [List.length_take]; omega)⟩
              have hj2 : cs[z]? = some d := by rw [List.getElem?_take, if_pos (by omega)] at hj; exact hj
              obtain ⟨qb3, qo3, rfl⟩ := (ha_o.rd hm 3 rfl).atI encC_len (by decide) hj
              have hcd := hcc d (List.mem_of_getElem? hj2)
              have hrd := Pl.rds_chunk hcx hcd (hsf k z c.cm d.cm (by omega) (cmsGet hi) (cmsGet hj2)) hme
              refine HW_skip rfl ?_
              refine gn_sq ?_
              refine HW_seq rfl ?_
              refine HW_block rfl ?_
              refine HW_seq rfl ?_
              refine HW_text (.pure 0 (.pure 1 (.act 2 (.act 3 .done)))) (by kernel_rfl) ?_
              refine rw_p rfl rfl (y_index rfl rfl sl27 rfl (by omega) (by omega)) ?_
              refine rw_p rfl rfl (y_elA rfl ag24 (ha_o.rd hm 3 rfl).nt encC_len hj) ?_
              refine a_alloc rfl rfl z24 hm trivial fun m22 w hg_m22 hm hh => ?_
              refine a_store rfl rfl rfl rfl sz24 rfl hm 0 rfl rfl fun w hm => ?_
              refine rw_done ?_
              refine gn_sq ?_
              refine HW_seq rfl ?_
              refine HW_text (.pure 0 (.pure 1 (.act 2 (.pure 3 .done)))) (by kernel_rfl) ?_
              refine rw_p rfl rfl (y_loadA (s := 5) (vs := [_, _, _, _, _]) rfl ag24 (hm.nt 1 rfl) rfl) ?_
              refine rw_p rfl rfl (y_loadA (s := 5) (vs := [_, _, _, _, _]) rfl ag24 (hm.nt 0 rfl) rfl) ?_
              refine a_call rfl rfl rfl go32 (r12_reads e.cm e.d.p e.d.cap d.cm d.d.p d.d.cap _ hce hcd) fun v w hR => ?_
              obtain ⟨rfl, hE⟩ := hR
              refine ⟨trivial, ?_⟩
              replace hm := hm.ext hE
              refine rw_p rfl rfl (y_as (c := false) (y_gt rfl rfl) (decide_eq_false hrd)) ?_
              refine rw_done ?_
              refine gn_sq ?_
              refine HW_condF rfl rfl rfl ?_
              refine HW_skip rfl ?_
              refine gn_bl ?_
              refine gn_sq ?_
              refine HW_text (.pure 0 (.pure 1 .done)) (by kernel_rfl) ?_
              refine rw_p rfl rfl (y_add rfl rfl (i64w (by omega) (by omega))) ?_
              refine rw_p rfl rfl (y_move rfl) ?_
              refine rw_done ?_
              refine next (z + 1) (by omega) ⟨(hm.pickT [1, 2, 3, 4, 5] 6 rfl), by omega⟩ ⟨nx z, rfl, rfl, rfl, rfl, rfl, rfl, rfl, rfl, rfl, rfl, rfl, rfl, trivial⟩
            ·
              simp only [decide_eq_false_iff_not] at hc4
              refine HW_exit rfl ?_
              refine gx_sq (gx_lp ?_)
              refine gx_here ?_
              refine gn_bl ?_
              refine gn_sq ?_
              refine HW_text (.pure 0 (.pure 1 .done)) (by kernel_rfl) ?_
              refine rw_p rfl rfl (y_add rfl rfl (i64w (by omega) (by omega))) ?_
              refine rw_p rfl rfl (y_move rfl) ?_
              refine rw_done ?_
              refine next (y + 1) (by omega) ⟨(hm.pickT [1, 2, 3, 4] 5 rfl), by omega⟩ ⟨nx y, rfl, rfl, rfl, rfl, rfl, rfl, rfl, rfl, trivial⟩
          ·
            simp only [decide_eq_false_iff_not] at hc3
            refine HW_exit rfl ?_
            refine gx_sq (gx_lp ?_)
            refine gx_here ?_
            refine gn_sq ?_
            refine HW_text (.pure 0 (.pure 1 (.act 2 (.act 3 (.pure 4 .done))))) (by kernel_rfl) ?_
            refine rw_p rfl rfl (y_move rfl) ?_
            refine rw_p rfl rfl (y_loadA (s := 5) (vs := [_, _, _, _, _]) rfl ag24 (hm.nt 1 rfl) rfl) ?_
            refine a_buildSlice (l := [_, _, _, _, _]) rfl rfl sl27 z24 rfl rfl rfl rfl rfl rfl rfl hm trivial fun m22 w hg_m22 hm hh => ?_
            refine a_append rfl rfl rfl rfl rfl rfl sl27 sl27 z24 rfl rfl (Rd.row0 (hm.get (k := 0) rfl)) rfl ha_o hm 3 rfl (by simp only; omega) (by simp only; omega) fun p_o cap_o g_o b_o w ha_o hm => ?_
            refine rw_p rfl rfl (y_assign rfl) ?_
            refine rw_done ?_
            refine gn_bl ?_
            refine gn_sq ?_
            refine HW_text (.pure 0 (.pure 1 .done)) (by kernel_rfl) ?_
            refine rw_p rfl rfl (y_add rfl rfl (i64w (by omega) (by omega))) ?_
            refine rw_p rfl rfl (y_move rfl) ?_
            refine rw_done ?_
            refine next (k + 1, ⟨p_o, _, cap_o, g_o, b_o⟩) (by simp only; omega) ⟨(hm.pick [3, 4] rfl), ha_o.to ?_, by simp only; omega, by simp only; omega⟩ ⟨nx k, rfl, rfl, rfl, rfl, trivial⟩
            rw [List.take_add_one, hi]; simp only [Option.toList, List.flatMap_append, List.flatMap_cons, List.flatMap_nil, List.append_nil]; rfl
        ·
          simp only [decide_eq_false_iff_not] at hc2
          refine HW_exit rfl ?_
          refine gx_sq (gx_lp ?_)
          refine gx_here ?_
          refine gn_sq ?_
          refine HW_seq rfl ?_
          refine HW_text (.act 0 (.pure 1 .done)) (by kernel_rfl) ?_
          refine a_call rfl rfl rfl go10 (law_alive _) fun v w hR => ?_
          obtain ⟨rfl, hE⟩ := hR
          refine ⟨trivial, ?_⟩
          replace hm := hm.ext hE
          refine rw_p rfl rfl (y_assign rfl) ?_
          refine rw_done ?_
          refine gn_sq ?_
          refine HW_ret rfl ?_
          refine toR (fin hret rfl (.tmp rfl .nil) .one ?_)
          exact ⟨rfl, hm.to⟩
  ·
    have hsm2 := hsm
    simp only [Bool.and_eq_true, decide_eq_true_eq] at hsm2
    have h20 := hsm2.1
    refine HW_draw (.pure 0 (.pure 1 (.pure 2 (.pure 3 (.pure 4 (.act 5 (.pure 6 (.pure 7 (.pure 8 (.pure 9 (.pure 10 (.act 11 (.pure 12 (.pure 13 (.pure 14 (.pure 15 (.pure 16 (.pure 17 (.pure 18 (.act 19 (.cut (.act 20 (.pure 21 (.pure 22 (.pure 23 .done))))))))))))))))))))))))) No mix (by kernel_rfl) hm fun w hw hm0 hh => ?_
    have hm := hm0
    refine rw_p rfl rfl (y_move rfl) ?_
    refine rw_p rfl rfl (y_len rfl rfl sl22) ?_
    refine rw_p rfl rfl (y_as (c := false) (y_gt rfl rfl) (decide_eq_false (by omega))) ?_
    refine rw_p rfl rfl (y_move rfl) ?_
    refine rw_p rfl rfl (y_loadA (s := 67) (vs := dlV oo nn H _ cs.length cq) rfl ag43 (hm0.nd 0 rfl id) rfl) ?_
    refine a_call rfl rfl rfl go25 (C.as (v := .bool true) (r15_small oo nn H q cq cs _ h1 h2 (hq.ext0 hm.to) (fun c hc => okC.mono (hok c hc) hm.to)) (congrArg Value.bool hsm)) fun v w hR => ?_
    obtain ⟨rfl, hE⟩ := hR
    refine ⟨hh.ext hE, ?_⟩
    replace hm := hm.ext hE
    replace hh := hh.ext hE
    refine rw_p rfl rfl (y_not rfl) ?_
    refine rw_p rfl rfl (y_pickF rfl rfl) ?_
    refine rw_p rfl rfl (y_move rfl) ?_
    refine rw_p rfl rfl (y_move rfl) ?_
    refine rw_p rfl rfl (y_loadA (s := 67) (vs := dlV oo nn H _ cs.length cq) rfl ag43 (hm0.nd 0 rfl id) rfl) ?_
    refine a_call rfl rfl rfl go26 (C.as (v := .bool false) (r8_fits oo nn H q cq cs r cr f _ h1 h2 (hq.ext0 hm.to) (by omega) (fun c hc => okC.mono (hok c hc) hm.to)) (congrArg Value.bool (by simpa using hft))) fun v w hR => ?_
    obtain ⟨rfl, hE⟩ := hR
    refine ⟨hh.ext hE, ?_⟩
    replace hm := hm.ext hE
    replace hh := hh.ext hE
    refine rw_p rfl rfl (y_not rfl) ?_
    refine rw_p rfl rfl (y_pickF rfl rfl) ?_
    refine rw_p rfl rfl (y_move rfl) ?_
    refine rw_gf rfl rfl (by decide) rfl ?_
    refine rw_gf rfl rfl (by decide) rfl ?_
    refine rw_gf rfl rfl (by decide) rfl ?_
    refine rw_gf rfl rfl (by decide) rfl ?_
    refine a_gf rfl rfl (by decide) rfl hh ?_
    refine a_cut ?_
    refine a_gf rfl rfl (by decide) rfl trivial ?_
    refine rw_gf rfl rfl (by decide) rfl ?_
    refine rw_gf rfl rfl (by decide) rfl ?_
    refine rw_p rfl rfl (y_pickT rfl rfl) ?_
    refine rw_done ?_
    refine gn_sq ?_
    refine HW_condT rfl rfl rfl ?_
    refine HW_seq rfl ?_
    refine HW_text (.act 0 (.pure 1 .done)) (by kernel_rfl) ?_
    refine a_call rfl rfl rfl go10 (law_alive _) fun v w hR => ?_
    obtain ⟨rfl, hE⟩ := hR
    refine ⟨trivial, ?_⟩
    replace hm := hm.ext hE
    refine rw_p rfl rfl (y_assign rfl) ?_
    refine rw_done ?_
    refine gn_sq ?_
    refine HW_ret rfl ?_
    refine gr_sq ?_
    refine toR (fin hret rfl (.tmp rfl .nil) .one ?_)
    exact ⟨rfl, hm.to⟩
  ·
    refine HW_draw (.pure 0 (.pure 1 (.pure 2 (.pure 3 (.pure 4 (.act 5 (.pure 6 (.pure 7 (.pure 8 (.pure 9 (.pure 10 (.act 11 (.pure 12 (.pure 13 (.pure 14 (.pure 15 (.pure 16 (.pure 17 (.pure 18 (.act 19 (.cut (.act 20 (.pure 21 (.pure 22 (.pure 23 .done))))))))))))))))))))))))) No mix (by kernel_rfl) hm fun w hw hm0 hh => ?_
    have hm := hm0
    refine rw_p rfl rfl (y_move rfl) ?_
    refine rw_p rfl rfl (y_len rfl rfl sl22) ?_
    refine rw_p rfl rfl (y_as (c := false) (y_gt rfl rfl) (decide_eq_false (by omega))) ?_
    refine rw_p rfl rfl (y_move rfl) ?_
    refine rw_p rfl rfl (y_loadA (s := 67) (vs := dlV oo nn H _ cs.length cq) rfl ag43 (hm0.nd 0 rfl id) rfl) ?_
    refine a_call rfl rfl rfl go25 (C.as (v := .bool false) (r15_small oo nn H q cq cs _ h1 h2 (hq.ext0 hm.to) (fun c hc => okC.mono (hok c hc) hm.to)) (congrArg Value.bool (by simpa using hsm))) fun v w hR => ?_
    obtain ⟨rfl, hE⟩ := hR
    refine ⟨hh.ext hE, ?_⟩
    replace hm := hm.ext hE
    replace hh := hh.ext hE
    refine rw_p rfl rfl (y_not rfl) ?_
    refine rw_p rfl rfl (y_pickF rfl rfl) ?_
    refine rw_p rfl rfl (y_move rfl) ?_
    refine rw_gf rfl rfl (by decide) rfl ?_
    refine rw_gf rfl rfl (by decide) rfl ?_
    refine a_gf rfl rfl (by decide) rfl hh ?_
    refine rw_gf rfl rfl (by decide) rfl ?_
    refine rw_p rfl rfl (y_pickT rfl rfl) ?_
    refine rw_p rfl rfl (y_move rfl) ?_
    refine rw_gf rfl rfl (by decide) rfl ?_
    refine rw_gf rfl rfl (by decide) rfl ?_
    refine rw_gf rfl rfl (by decide) rfl ?_
    refine rw_gf rfl rfl (by decide) rfl ?_
    refine a_gf rfl rfl (by decide) rfl hh ?_
    refine a_cut ?_
    refine a_gf rfl rfl (by decide) rfl trivial ?_
    refine rw_gf rfl rfl (by decide) rfl ?_
    refine rw_gf rfl rfl (by decide) rfl ?_
    refine rw_p rfl rfl (y_pickT rfl rfl) ?_
    refine rw_done ?_
    refine gn_sq ?_
    refine HW_condT rfl rfl rfl ?_
    refine HW_seq rfl ?_
    refine HW_text (.act 0 (.pure 1 .done)) (by kernel_rfl) ?_
    refine a_call rfl rfl rfl go10 (law_alive _) fun v w hR => ?_
    obtain ⟨rfl, hE⟩ := hR
    refine ⟨trivial, ?_⟩
    replace hm := hm.ext hE
    refine rw_p rfl rfl (y_assign rfl) ?_
    refine rw_done ?_
    refine gn_sq ?_
    refine HW_ret rfl ?_
    refine gr_sq ?_
    refine toR (fin hret rfl (.tmp rfl .nil) .one ?_)
    exact ⟨rfl, hm.to⟩
  ·
    refine HW_draw (.pure 0 (.pure 1 (.pure 2 (.pure 3 (.pure 4 (.act 5 (.pure 6 (.pure 7 (.pure 8 (.pure 9 (.pure 10 (.act 11 (.pure 12 (.pure 13 (.pure 14 (.pure 15 (.pure 16 (.pure 17 (.pure 18 (.act 19 (.cut (.act 20 (.pure 21 (.pure 22 (.pure 23 .done))))))))))))))))))))))))) No mix (by kernel_rfl) hm fun w hw hm0 hh => ?_
    have hm := hm0
    refine rw_p rfl rfl (y_move rfl) ?_
    refine rw_p rfl rfl (y_len rfl rfl sl22) ?_
    refine rw_p rfl rfl (y_as (c := true) (y_gt rfl rfl) (decide_eq_true (by omega))) ?_
    refine rw_p rfl rfl (y_move rfl) ?_
    refine rw_gf rfl rfl (by decide) rfl ?_
    refine a_gf rfl rfl (by decide) rfl hh ?_
    refine rw_gf rfl rfl (by decide) rfl ?_
    refine rw_p rfl rfl (y_pickT rfl rfl) ?_
    refine rw_p rfl rfl (y_move rfl) ?_
    refine rw_gf rfl rfl (by decide) rfl ?_
    refine rw_gf rfl rfl (by decide) rfl ?_
    refine a_gf rfl rfl (by decide) rfl hh ?_
    refine rw_gf rfl rfl (by decide) rfl ?_
    refine rw_p rfl rfl (y_pickT rfl rfl) ?_
    refine rw_p rfl rfl (y_move rfl) ?_
    refine rw_gf rfl rfl (by decide) rfl ?_
    refine rw_gf rfl rfl (by decide) rfl ?_
    refine rw_gf rfl rfl (by decide) rfl ?_
    refine rw_gf rfl rfl (by decide) rfl ?_
    refine a_gf rfl rfl (by decide) rfl hh ?_
    refine a_cut ?_
    refine a_gf rfl rfl (by decide) rfl trivial ?_
    refine rw_gf rfl rfl (by decide) rfl ?_
    refine rw_gf rfl rfl (by decide) rfl ?_
    refine rw_p rfl rfl (y_pickT rfl rfl) ?_
    refine rw_done ?_
    refine gn_sq ?_
    refine HW_condT rfl rfl rfl ?_
    refine HW_seq rfl ?_
    refine HW_text (.act 0 (.pure 1 .done)) (by kernel_rfl) ?_
    refine a_call rfl rfl rfl go10 (law_alive _) fun v w hR => ?_
    obtain ⟨rfl, hE⟩ := hR
    refine ⟨trivial, ?_⟩
    replace hm := hm.ext hE
    refine rw_p rfl rfl (y_assign rfl) ?_
    refine rw_done ?_
    refine gn_sq ?_
    refine HW_ret rfl ?_
    refine gr_sq ?_
    refine toR (fin hret rfl (.tmp rfl .nil) .one ?_)
    exact ⟨rfl, hm.to⟩

end Go.Proofs.Ytcngaknlagocdaa
