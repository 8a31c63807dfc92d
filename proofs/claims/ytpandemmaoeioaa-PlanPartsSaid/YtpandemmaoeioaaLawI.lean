/- Contracts of functions of the program: what each returns. Conditions: the hypotheses of each theorem. -/
import Derived.Test.YtpandemmaoeioaaLawH
set_option linter.unusedVariables false
set_option linter.unusedSimpArgs false
namespace Go.Proofs.Ytpandemmaoeioaa
open Go Go.Cx

theorem fo51_0 : fldO Try.prog 51 0 = some 0 := by kernel_rfl
theorem fo51_1 : fldO Try.prog 51 1 = some 1 := by kernel_rfl
theorem fo51_2 : fldO Try.prog 51 2 = some 2 := by kernel_rfl
theorem go10 : isGo Try.prog 10 = true := by kernel_rfl
theorem go12 : isGo Try.prog 12 = true := by kernel_rfl
theorem go13 : isGo Try.prog 13 = true := by kernel_rfl
theorem go22 : isGo Try.prog 22 = true := by kernel_rfl
theorem go23 : isGo Try.prog 23 = true := by kernel_rfl
theorem go24 : isGo Try.prog 24 = true := by kernel_rfl
theorem go25 : isGo Try.prog 25 = true := by kernel_rfl
theorem go9 : isGo Try.prog 9 = true := by kernel_rfl
theorem un4 : Try.prog.underlying 4 = some .bool := by kernel_rfl

set_option maxHeartbeats 2000000 in
theorem law_runs (s : Int) (q : Option Addr) (cq : Nat) (xs : List CmdV) (r : Option Addr) (cr : Nat) (f : List UInt8) (a b : Int) (w0 : World) (hq : Rd w0 q (xs.flatMap encC)) (hok0 : ∀ c ∈ xs, okC w0 c) (hq2 : xs.length ≤ cq ∧ cq ≤ 9223372036854775807) (hs : Pl.I64 s) (hqs : cq ≠ 0 → ∀ ad, q = some ad → ad.spot = none) (hfb : SB.ok w0 ⟨r, cr, f⟩) (ha : Pl.I64 a) (hb : Pl.I64 b) : C Try.prog 6 [.int .i64 s, .slice q xs.length cq, .agg ⟨[.slice r f.length cr, .int .i64 a, .int .i64 b]⟩] w0 fun v w' => v = .bool true ∧ Ext No w0 w' := by
  have hf1 := hfb.le
  have hf2 := hfb.max
  simp only at hf1 hf2
  refine C_of Try.func6 rfl rfl rfl fun κ hret hnorm => ?_
  have hm := Mem.start w0
  refine HW_seq rfl ?_
  refine HW_text (.act 0 (.pure 1 .done)) (by kernel_rfl) ?_
  refine a_box rfl rfl rfl rfl hm trivial fun m1 w hg_m1 hm hh => ?_
  refine rw_p rfl rfl (y_assign rfl) ?_
  refine rw_done ?_
  refine gn_sq ?_
  refine HW_seq rfl ?_
  refine HW_seq rfl ?_
  refine HW_text (.pure 0 (.pure 1 (.pure 2 (.pure 3 (.pure 4 (.act 5 (.pure 6 (.pure 7 (.pure 8 (.pure 9 (.pure 10 .done))))))))))) (by kernel_rfl) ?_
  refine rw_p rfl rfl (y_move rfl) ?_
  refine rw_p rfl rfl (y_move rfl) ?_
  refine rw_p rfl rfl (y_len rfl rfl sl22) ?_
  refine rw_p rfl rfl (y_min rfl rfl) ?_
  refine rw_p rfl rfl (y_v (y_slice (ln := 0) (hn := (min xs.length 60)) rfl sl22 rfl ⟨_, congrArg (fun x => some (Value.int .i64 x)) (by omega)⟩ (by omega) (by omega) (fun h => hqs (by omega))) (show _ = Value.slice (slp q cq 0 5) (xs.take 60).length (cq - 0) by rw [List.length_take, Nat.sub_zero, Nat.min_comm])) ?_
  refine a_call rfl rfl rfl go12 (law_total (slp q cq 0 5) (cq - 0) (xs.take 60) _ ((hq.ext0 hm.to).slpT hq2.1 60) (by rw [List.length_take]; omega)) fun v w hR => ?_
  obtain ⟨rfl, hE⟩ := hR
  refine ⟨trivial, ?_⟩
  replace hm := hm.ext hE
  refine rw_p rfl rfl (y_move rfl) ?_
  refine rw_p rfl rfl (y_extract rfl rfl) ?_
  refine rw_p rfl rfl (y_extract rfl rfl) ?_
  refine rw_p rfl rfl (y_assign rfl) ?_
  refine rw_p rfl rfl (y_assign rfl) ?_
  refine rw_done ?_
  refine gn_sq ?_
  refine HW_seq rfl ?_
  refine HW_text (.pure 0 (.pure 1 (.act 2 (.pure 3 (.pure 4 (.pure 5 (.pure 6 (.pure 7 (.pure 8 (.pure 9 (.pure 10 (.pure 11 (.pure 12 (.pure 13 (.pure 14 (.pure 15 (.act 16 (.pure 17 (.pure 18 .done))))))))))))))))))) (by kernel_rfl) ?_
  refine rw_p rfl rfl (y_move rfl) ?_
  refine rw_p rfl rfl (y_move rfl) ?_
  refine a_call rfl rfl rfl go9 (r18_few s q cq xs _ (hq.ext0 hm.to) (fun c hc => ⟨(hok0 c hc).1, (hok0 c hc).2.1, (hok0 c hc).2.2.1, (hok0 c hc).2.2.2.1, (hok0 c hc).2.2.2.2.ext hm.to⟩) (by omega) hs) fun v w hR => ?_
  obtain ⟨bo, rfl, hfew, hE⟩ := hR
  refine ⟨trivial, ?_⟩
  replace hm := hm.ext hE
  refine rw_p rfl rfl (y_not rfl) ?_
  refine rw_p rfl rfl (y_move rfl) ?_
  refine rw_g rfl rfl rfl (fun hc => (y_move rfl)) ?_
  refine rw_g rfl rfl rfl (fun hc => (y_not (gx hc rfl))) ?_
  refine rw_p rfl rfl (y_or rfl rfl rfl) ?_
  refine rw_p rfl rfl (y_move rfl) ?_
  refine rw_g rfl rfl rfl (fun hc => (y_fieldAddr rfl fo51_0)) ?_
  refine rw_g rfl rfl rfl (fun hc => (y_load (gx hc rfl) sc32 (hm.nt 0 rfl) rfl)) ?_
  refine rw_g rfl rfl rfl (fun hc => (y_len (gx hc rfl) rfl sl32)) ?_
  refine rw_g rfl rfl rfl (fun hc => (y_gt (gx hc rfl) rfl)) ?_
  refine rw_p rfl rfl (y_or rfl rfl rfl) ?_
  refine rw_p rfl rfl (y_move rfl) ?_
  refine rw_g rfl rfl rfl (fun hc => (y_move rfl)) ?_
  refine a_callG rfl rfl rfl (fun hc => (evs_c (gx hc rfl) evs_n)) go23 (fun hc => (r16_shortB q cq xs _ (hq.ext0 hm.to) (by omega))) trivial fun w hE hh => ?_
  replace hm := hm.ext hE
  refine rw_g rfl rfl rfl (fun hc => (y_not (gx hc rfl))) ?_
  refine rw_p rfl rfl (y_or rfl rfl rfl) ?_
  refine rw_done ?_
  refine gn_sq ?_
  refine HW_cond rfl rfl (fun hc0 => ?_) (fun hc0 => ?_)
  ·
    refine HW_seq rfl ?_
    refine HW_text (.act 0 (.pure 1 .done)) (by kernel_rfl) ?_
    refine a_call rfl rfl rfl go10 (law_alive _) fun v w hR => ?_
    obtain ⟨rfl, hE⟩ := hR
    refine ⟨trivial, ?_⟩
    replace hm := hm.ext hE
    refine rw_p rfl rfl (y_assign rfl) ?_
    refine rw_done ?_
    refine gn_sq ?_
    refine HW_ret rfl ?_
    refine gr_sq ?_
    refine toR (fin hret rfl (.tmp rfl .nil) .one ?_)
    exact ⟨rfl, hm.to⟩
  ·
    simp only [Bool.or_eq_false_iff, Bool.not_eq_false', decide_eq_false_iff_not] at hc0
    have hc9 := hc0.1.1
    have hbt := hc9.1
    obtain ⟨hn30, hs1, hall, hn300⟩ := hfew hbt
    have hok : ∀ c ∈ xs, Pl.ccheck c.cm = 0 ∧ c.d.ok w0 ∧ c.d.bs.length ≤ 140737488355328 := fun c hc => ⟨(hall c hc).1, (hok0 c hc).2.2.2.2, by have := (hall c hc).2.1; omega⟩
    have hfw : Pl.fewC s (xs.map CmdV.cm) := by intro d hd; obtain ⟨c, hc, rfl⟩ := List.mem_map.1 hd; exact ⟨(hall c hc).1, by have := (hall c hc).2.2; omega⟩
    have hmx : xs.length ≤ 1000000 ∧ Pl.first s (xs.map CmdV.cm) (xs.map CmdV.cm).length ≤ 4611686018427387903 := ⟨by omega, by rw [List.length_map]; omega⟩
    have hst9 := Pl.steps_len 0 hfw
    have hbd : (Pl.steps s 0 (xs.map CmdV.cm)).length ≤ 1000000 := by rw [List.length_map] at hst9; omega
    have htw : Pl.totW 0 (Pl.targets (xs.map CmdV.cm)) = Pl.total 0 (Pl.targets (xs.map CmdV.cm)) := Pl.totW_eq (by decide) (by decide) (Pl.targets_ok (fun d hd => (hfw d hd).1))
    have hT : (Pl.total 0 (Pl.targets (xs.map CmdV.cm))).isSome = true := by have h9 := hc9.2; rw [List.take_of_length_le (by omega), htw] at h9; exact h9
    have h300 := hc0.1.2
    refine HW_skip rfl ?_
    refine gn_sq ?_
    refine HW_seq rfl ?_
    refine HW_text (.pure 0 (.pure 1 (.act 2 (.pure 3 .done)))) (by kernel_rfl) ?_
    refine rw_p rfl rfl (y_move rfl) ?_
    refine rw_p rfl rfl (y_move rfl) ?_
    refine a_call rfl rfl rfl go11 (p_newS s q cq xs _ (hq.ext0 hm.to) (fun c hc => ⟨(hok c hc).1, (hok c hc).2.1.ext hm.to, (hok c hc).2.2⟩) ⟨hs, hs1⟩ hfw hmx hT) fun v w hR => ?_
    obtain ⟨m_p, p_f, p_b, p_l, cap_f, cap_b, cap_l, g_f, g_b, g_l, b_f, b_b, b_l, ys, B_y, rfl, ha_f, ha_b, ha_l, hym, hH, hmc⟩ := hR
    refine ⟨trivial, ?_⟩
    replace hm := hm.callT (N1 := [_, _, _, _]) hmc
    have hfw9 := hfw
    have hmx9 := hmx
    have hyl : ys.length = xs.length := by have := congrArg List.length hym; simpa using this
    rw [← hym] at hfw9
    have hmx9 : (ys.map CmdV.cm).length ≤ 1000000 ∧ Pl.first s (ys.map CmdV.cm) (ys.map CmdV.cm).length ≤ 4611686018427387903 := by rw [hym]; exact ⟨by rw [List.length_map]; exact hmx.1, hmx.2⟩
    have hdl : ∀ y ∈ ys, y.d.bs.length ≤ 140737488355328 := fun y hy => by
      have hy9 : y.cm ∈ ys.map CmdV.cm := List.mem_map.2 ⟨y, hy, rfl⟩
      rw [hym] at hy9
      obtain ⟨c9, hc9, e9⟩ := List.mem_map.1 hy9
      have h9 := (hok c9 hc9).2.2
      have e8 : c9.d.bs = y.d.bs := congrArg Pl.Cm.bs e9
      rw [← e8]; exact h9
    have hst9y : Pl.steps s 0 (xs.map CmdV.cm) = Pl.steps s 0 (ys.map CmdV.cm) := by rw [hym]
    have hsc : ∀ x ∈ Pl.steps s 0 (ys.map CmdV.cm), Pl.ccheck x.2 = 0 := fun x hx => (Pl.steps_ok (b := 0) (fun c hc => (hfw9 c hc).1) x hx).1
    have hst8 := Pl.steps_len 0 hfw9
    refine rw_p rfl rfl (y_assign rfl) ?_
    refine rw_done ?_
    refine gn_sq ?_
    refine HW_seq rfl ?_
    refine HW_seq rfl ?_
    refine HW_text (.pure 0 (.pure 1 .done)) (by kernel_rfl) ?_
    refine rw_p rfl rfl (y_move rfl) ?_
    refine rw_p rfl rfl (y_pnil rfl rfl pb25) ?_
    refine rw_done ?_
    refine gn_sq ?_
    refine HW_condF rfl rfl rfl ?_
    refine HW_skip rfl ?_
    refine gn_sq ?_
    refine HW_seq rfl ?_
    refine HW_text (.pure 0 (.pure 1 (.pure 2 (.pure 3 (.pure 4 (.pure 5 (.pure 6 (.act 7 (.pure 8 (.pure 9 (.pure 10 (.pure 11 (.pure 12 .done))))))))))))) (by kernel_rfl) ?_
    refine rw_p rfl rfl (y_move rfl) ?_
    refine rw_p rfl rfl (y_fieldAddr rfl fo51_0) ?_
    refine rw_p rfl rfl (y_load rfl sc32 (hm.nt 4 rfl) rfl) ?_
    refine rw_p rfl rfl (y_fieldAddr rfl fo51_1) ?_
    refine rw_p rfl rfl (y_load rfl sc3 (hm.nt 4 rfl) rfl) ?_
    refine rw_p rfl rfl (y_fieldAddr rfl fo51_2) ?_
    refine rw_p rfl rfl (y_load rfl sc3 (hm.nt 4 rfl) rfl) ?_
    refine a_call rfl rfl rfl go24 (p_run (a) (b) r cr f m_p s p_f cap_f p_b cap_b p_l cap_l ys _ (hm.get (k := 0) rfl) (ha_f.rd hm 1 rfl) (ha_b.rd hm 2 rfl) (ha_l.rd hm 3 rfl) hfw9 hmx9 (fun y hy => ⟨(hH y hy).okN hm (by intro e he; simp [he, setB]), hdl y hy⟩) ⟨hs, hs1⟩ (hfb.rd.ext0 hm.to) ⟨hfb.le, by omega⟩ hfb.spot ⟨ha, hb⟩ (by rw [← hst9y]; exact hbd)) fun v w hR => ?_
    obtain ⟨n_e, cap_e, g_e, b_e, p_e, rfl, ha_e, hn_e, hmc⟩ := hR
    subst hn_e
    refine ⟨trivial, ?_⟩
    replace hm := hm.callN hmc
    have hle_e := Pl.runP_le (f := f) (st := (Pl.steps s 0 (ys.map CmdV.cm))) (a := a) (b := b) hsc
    refine rw_p rfl rfl (y_move rfl) ?_
    refine rw_p rfl rfl (y_extract rfl rfl) ?_
    refine rw_p rfl rfl (y_extract rfl rfl) ?_
    refine rw_p rfl rfl (y_assign rfl) ?_
    refine rw_p rfl rfl (y_assign rfl) ?_
    refine rw_done ?_
    refine gn_sq ?_
    refine HW_seq rfl ?_
    refine HW_draw (.pure 0 (.pure 1 (.pure 3 (.pure 4 (.pure 5 (.pure 6 (.pure 7 (.pure 8 (.act 2 (.act 9 (.pure 10 (.pure 11 (.pure 12 (.pure 13 (.pure 14 .done))))))))))))))) No mix (by kernel_rfl) hm fun w hw hm0 hh => ?_
    have hm := hm0
    refine rw_p rfl rfl (y_move rfl) ?_
    refine rw_p rfl rfl (y_move rfl) ?_
    refine rw_p rfl rfl (y_fieldAddr rfl fo51_0) ?_
    refine rw_p rfl rfl (y_load rfl sc32 (hm0.nd 5 rfl id) rfl) ?_
    refine rw_p rfl rfl (y_fieldAddr rfl fo51_1) ?_
    refine rw_p rfl rfl (y_load rfl sc3 (hm0.nd 5 rfl id) rfl) ?_
    refine rw_p rfl rfl (y_fieldAddr rfl fo51_2) ?_
    refine rw_p rfl rfl (y_load rfl sc3 (hm0.nd 5 rfl id) rfl) ?_
    refine a_call rfl rfl rfl go13 (C.eqv (r18_steps s q cq xs _ (hq.ext0 hm.to) (fun c hc => ⟨(hok c hc).1, (hok c hc).2.1.ext hm.to, (hok c hc).2.2⟩) hs hmx.1 hbd) rfl) fun v w hR => ?_
    rw [← hym] at hR
    obtain ⟨ts, p_u, n_u, cap_u, g_u, b_u, B_u, rfl, ha_u, htm, hHt, hmc⟩ := hR
    refine ⟨hh.ext hmc.to, ?_⟩
    replace hh := hh.ext hmc.to
    replace hm := hm.callT1 hmc
    obtain rfl := ha_u.lenE encT_len (by decide)
    have htl : ts.length = (Pl.steps s 0 (ys.map CmdV.cm)).length := by have := congrArg List.length htm; rw [List.length_map, stT_len] at this; exact this
    have hst8 := Pl.steps_len 0 hfw9
    have htl9 : Pl.first s (ys.map CmdV.cm) (ys.map CmdV.cm).length = (ts.length : Int) := by omega
    refine a_call rfl rfl rfl go25 (r18_run p_u cap_u ts (Pl.steps s 0 (ys.map CmdV.cm)) r cr f a b _ (ha_u.rd hm 0 rfl) htm (fun t ht => ⟨stT_ok (Q := fun d => Pl.ccheck d = 0) hsc (by rw [← htm]; exact List.mem_map.2 ⟨t, ht, rfl⟩ : ((t.1, t.2.1, t.2.2.cm) : Int × Int × Pl.Cm) ∈ stT 0 (Pl.steps s 0 (ys.map CmdV.cm))), (hHt t ht).rd hm (by intro e he; simp [he, setB])⟩) (by rw [htl, ← hst9y]; exact hbd) (hfb.rd.ext0 hm.to) ⟨hfb.le, by omega⟩ hfb.spot ⟨ha, hb⟩) fun v w hR => ?_
    obtain ⟨n_z, cap_z, g_z, b_z, p_z, rfl, ha_z, hn_z, hmc⟩ := hR
    subst hn_z
    refine ⟨hh.ext hmc.to, ?_⟩
    replace hh := hh.ext hmc.to
    replace hm := hm.callN hmc
    refine rw_p rfl rfl (y_move rfl) ?_
    refine rw_p rfl rfl (y_extract rfl rfl) ?_
    refine rw_p rfl rfl (y_extract rfl rfl) ?_
    refine rw_p rfl rfl (y_assign rfl) ?_
    refine rw_p rfl rfl (y_assign rfl) ?_
    refine rw_done ?_
    refine gn_sq ?_
    refine HW_seq rfl ?_
    refine HW_text (.act 0 (.pure 1 (.pure 2 (.pure 3 (.act 4 (.pure 5 (.pure 6 (.pure 7 (.pure 8 (.pure 9 (.pure 10 (.pure 11 .done)))))))))))) (by kernel_rfl) ?_
    refine a_call rfl rfl rfl go10 (law_alive _) fun v w hR => ?_
    obtain ⟨rfl, hE⟩ := hR
    refine ⟨trivial, ?_⟩
    replace hm := hm.ext hE
    refine rw_p rfl rfl (y_move rfl) ?_
    refine rw_p rfl rfl (y_move rfl) ?_
    refine rw_p rfl rfl (y_move rfl) ?_
    refine a_call rfl rfl rfl go22 (C.as (v := .bool true) (eq_b p_e p_z cap_e cap_z ((Pl.runP f (Pl.steps s 0 (ys.map CmdV.cm)) a b).getD []) ((Pl.runP f (Pl.steps s 0 (ys.map CmdV.cm)) a b).getD []) _ (ha_e.rd hm 2 rfl) (ha_z.rd hm 0 rfl) (by omega) (by omega)) (congrArg Value.bool (by simp))) fun v w hR => ?_
    obtain ⟨rfl, hE⟩ := hR
    refine ⟨trivial, ?_⟩
    replace hm := hm.ext hE
    refine rw_p rfl rfl (y_pickT rfl rfl) ?_
    refine rw_p rfl rfl (y_move rfl) ?_
    refine rw_p rfl rfl (y_move rfl) ?_
    refine rw_p rfl rfl (y_move rfl) ?_
    refine rw_p rfl rfl (y_as (c := true) (y_beql rfl rfl un4) (by simp)) ?_
    refine rw_p rfl rfl (y_pickT rfl rfl) ?_
    refine rw_p rfl rfl (y_assign rfl) ?_
    refine rw_done ?_
    refine gn_sq ?_
    refine HW_ret rfl ?_
    refine toR (fin hret rfl (.tmp rfl .nil) .one ?_)
    exact ⟨rfl, hm.to⟩

set_option maxHeartbeats 2000000 in
theorem law_parts (s : Int) (q : Option Addr) (cq : Nat) (xs : List CmdV) (r : Option Addr) (cr : Nat) (f : List UInt8) (a b : Int) (w0 : World) (hq : Rd w0 q (xs.flatMap encC)) (hok0 : ∀ c ∈ xs, okC w0 c) (hq2 : xs.length ≤ cq ∧ cq ≤ 9223372036854775807) (hs : Pl.I64 s) (hqs : cq ≠ 0 → ∀ ad, q = some ad → ad.spot = none) (hfb : SB.ok w0 ⟨r, cr, f⟩) (ha : Pl.I64 a) (hb : Pl.I64 b) : C Try.prog 7 [.int .i64 s, .slice q xs.length cq, .agg ⟨[.slice r f.length cr, .int .i64 a, .int .i64 b]⟩] w0 fun v w' => v = .bool true ∧ Ext No w0 w' := by
  have hf1 := hfb.le
  have hf2 := hfb.max
  simp only at hf1 hf2
  refine C_of Try.func7 rfl rfl rfl fun κ hret hnorm => ?_
  have hm := Mem.start w0
  refine HW_seq rfl ?_
  refine HW_text (.act 0 (.pure 1 .done)) (by kernel_rfl) ?_
  refine a_box rfl rfl rfl rfl hm trivial fun m1 w hg_m1 hm hh => ?_
  refine rw_p rfl rfl (y_assign rfl) ?_
  refine rw_done ?_
  refine gn_sq ?_
  refine HW_seq rfl ?_
  refine HW_seq rfl ?_
  refine HW_text (.pure 0 (.pure 1 (.pure 2 (.pure 3 (.pure 4 (.act 5 (.pure 6 (.pure 7 (.pure 8 (.pure 9 (.pure 10 .done))))))))))) (by kernel_rfl) ?_
  refine rw_p rfl rfl (y_move rfl) ?_
  refine rw_p rfl rfl (y_move rfl) ?_
  refine rw_p rfl rfl (y_len rfl rfl sl22) ?_
  refine rw_p rfl rfl (y_min rfl rfl) ?_
  refine rw_p rfl rfl (y_v (y_slice (ln := 0) (hn := (min xs.length 60)) rfl sl22 rfl ⟨_, congrArg (fun x => some (Value.int .i64 x)) (by omega)⟩ (by omega) (by omega) (fun h => hqs (by omega))) (show _ = Value.slice (slp q cq 0 5) (xs.take 60).length (cq - 0) by rw [List.length_take, Nat.sub_zero, Nat.min_comm])) ?_
  refine a_call rfl rfl rfl go12 (law_total (slp q cq 0 5) (cq - 0) (xs.take 60) _ ((hq.ext0 hm.to).slpT hq2.1 60) (by rw [List.length_take]; omega)) fun v w hR => ?_
  obtain ⟨rfl, hE⟩ := hR
  refine ⟨trivial, ?_⟩
  replace hm := hm.ext hE
  refine rw_p rfl rfl (y_move rfl) ?_
  refine rw_p rfl rfl (y_extract rfl rfl) ?_
  refine rw_p rfl rfl (y_extract rfl rfl) ?_
  refine rw_p rfl rfl (y_assign rfl) ?_
  refine rw_p rfl rfl (y_assign rfl) ?_
  refine rw_done ?_
  refine gn_sq ?_
  refine HW_seq rfl ?_
  refine HW_text (.pure 0 (.pure 1 (.act 2 (.pure 3 (.pure 4 (.pure 5 (.pure 6 (.pure 7 (.pure 8 (.pure 9 (.pure 10 (.pure 11 (.pure 12 (.pure 13 (.pure 14 (.pure 15 (.act 16 (.pure 17 (.pure 18 .done))))))))))))))))))) (by kernel_rfl) ?_
  refine rw_p rfl rfl (y_move rfl) ?_
  refine rw_p rfl rfl (y_move rfl) ?_
  refine a_call rfl rfl rfl go9 (r18_few s q cq xs _ (hq.ext0 hm.to) (fun c hc => ⟨(hok0 c hc).1, (hok0 c hc).2.1, (hok0 c hc).2.2.1, (hok0 c hc).2.2.2.1, (hok0 c hc).2.2.2.2.ext hm.to⟩) (by omega) hs) fun v w hR => ?_
  obtain ⟨bo, rfl, hfew, hE⟩ := hR
  refine ⟨trivial, ?_⟩
  replace hm := hm.ext hE
  refine rw_p rfl rfl (y_not rfl) ?_
  refine rw_p rfl rfl (y_move rfl) ?_
  refine rw_g rfl rfl rfl (fun hc => (y_move rfl)) ?_
  refine rw_g rfl rfl rfl (fun hc => (y_not (gx hc rfl))) ?_
  refine rw_p rfl rfl (y_or rfl rfl rfl) ?_
  refine rw_p rfl rfl (y_move rfl) ?_
  refine rw_g rfl rfl rfl (fun hc => (y_fieldAddr rfl fo51_0)) ?_
  refine rw_g rfl rfl rfl (fun hc => (y_load (gx hc rfl) sc32 (hm.nt 0 rfl) rfl)) ?_
  refine rw_g rfl rfl rfl (fun hc => (y_len (gx hc rfl) rfl sl32)) ?_
  refine rw_g rfl rfl rfl (fun hc => (y_gt (gx hc rfl) rfl)) ?_
  refine rw_p rfl rfl (y_or rfl rfl rfl) ?_
  refine rw_p rfl rfl (y_move rfl) ?_
  refine rw_g rfl rfl rfl (fun hc => (y_move rfl)) ?_
  refine a_callG rfl rfl rfl (fun hc => (evs_c (gx hc rfl) evs_n)) go23 (fun hc => (r16_shortB q cq xs _ (hq.ext0 hm.to) (by omega))) trivial fun w hE hh => ?_
  replace hm := hm.ext hE
  refine rw_g rfl rfl rfl (fun hc => (y_not (gx hc rfl))) ?_
  refine rw_p rfl rfl (y_or rfl rfl rfl) ?_
  refine rw_done ?_
  refine gn_sq ?_
  refine HW_cond rfl rfl (fun hc0 => ?_) (fun hc0 => ?_)
  ·
    refine HW_seq rfl ?_
    refine HW_text (.act 0 (.pure 1 .done)) (by kernel_rfl) ?_
    refine a_call rfl rfl rfl go10 (law_alive _) fun v w hR => ?_
    obtain ⟨rfl, hE⟩ := hR
    refine ⟨trivial, ?_⟩
    replace hm := hm.ext hE
    refine rw_p rfl rfl (y_assign rfl) ?_
    refine rw_done ?_
    refine gn_sq ?_
    refine HW_ret rfl ?_
    refine gr_sq ?_
    refine toR (fin hret rfl (.tmp rfl .nil) .one ?_)
    exact ⟨rfl, hm.to⟩
  ·
    simp only [Bool.or_eq_false_iff, Bool.not_eq_false', decide_eq_false_iff_not] at hc0
    have hc9 := hc0.1.1
    have hbt := hc9.1
    obtain ⟨hn30, hs1, hall, hn300⟩ := hfew hbt
    have hok : ∀ c ∈ xs, Pl.ccheck c.cm = 0 ∧ c.d.ok w0 ∧ c.d.bs.length ≤ 140737488355328 := fun c hc => ⟨(hall c hc).1, (hok0 c hc).2.2.2.2, by have := (hall c hc).2.1; omega⟩
    have hfw : Pl.fewC s (xs.map CmdV.cm) := by intro d hd; obtain ⟨c, hc, rfl⟩ := List.mem_map.1 hd; exact ⟨(hall c hc).1, by have := (hall c hc).2.2; omega⟩
    have hmx : xs.length ≤ 1000000 ∧ Pl.first s (xs.map CmdV.cm) (xs.map CmdV.cm).length ≤ 4611686018427387903 := ⟨by omega, by rw [List.length_map]; omega⟩
    have hst9 := Pl.steps_len 0 hfw
    have hbd : (Pl.steps s 0 (xs.map CmdV.cm)).length ≤ 1000000 := by rw [List.length_map] at hst9; omega
    have htw : Pl.totW 0 (Pl.targets (xs.map CmdV.cm)) = Pl.total 0 (Pl.targets (xs.map CmdV.cm)) := Pl.totW_eq (by decide) (by decide) (Pl.targets_ok (fun d hd => (hfw d hd).1))
    have hT : (Pl.total 0 (Pl.targets (xs.map CmdV.cm))).isSome = true := by have h9 := hc9.2; rw [List.take_of_length_le (by omega), htw] at h9; exact h9
    have h300 := hc0.1.2
    refine HW_skip rfl ?_
    refine gn_sq ?_
    refine HW_seq rfl ?_
    refine HW_text (.pure 0 (.pure 1 (.act 2 (.pure 3 .done)))) (by kernel_rfl) ?_
    refine rw_p rfl rfl (y_move rfl) ?_
    refine rw_p rfl rfl (y_move rfl) ?_
    refine a_call rfl rfl rfl go11 (p_newS s q cq xs _ (hq.ext0 hm.to) (fun c hc => ⟨(hok c hc).1, (hok c hc).2.1.ext hm.to, (hok c hc).2.2⟩) ⟨hs, hs1⟩ hfw hmx hT) fun v w hR => ?_
    obtain ⟨m_p, p_f, p_b, p_l, cap_f, cap_b, cap_l, g_f, g_b, g_l, b_f, b_b, b_l, ys, B_y, rfl, ha_f, ha_b, ha_l, hym, hH, hmc⟩ := hR
    refine ⟨trivial, ?_⟩
    replace hm := hm.callT (N1 := [_, _, _, _]) hmc
    have hfw9 := hfw
    have hmx9 := hmx
    have hyl : ys.length = xs.length := by have := congrArg List.length hym; simpa using this
    rw [← hym] at hfw9
    have hmx9 : (ys.map CmdV.cm).length ≤ 1000000 ∧ Pl.first s (ys.map CmdV.cm) (ys.map CmdV.cm).length ≤ 4611686018427387903 := by rw [hym]; exact ⟨by rw [List.length_map]; exact hmx.1, hmx.2⟩
    have hdl : ∀ y ∈ ys, y.d.bs.length ≤ 140737488355328 := fun y hy => by
      have hy9 : y.cm ∈ ys.map CmdV.cm := List.mem_map.2 ⟨y, hy, rfl⟩
      rw [hym] at hy9
      obtain ⟨c9, hc9, e9⟩ := List.mem_map.1 hy9
      have h9 := (hok c9 hc9).2.2
      have e8 : c9.d.bs = y.d.bs := congrArg Pl.Cm.bs e9
      rw [← e8]; exact h9
    have hst9y : Pl.steps s 0 (xs.map CmdV.cm) = Pl.steps s 0 (ys.map CmdV.cm) := by rw [hym]
    have hsc : ∀ x ∈ Pl.steps s 0 (ys.map CmdV.cm), Pl.ccheck x.2 = 0 := fun x hx => (Pl.steps_ok (b := 0) (fun c hc => (hfw9 c hc).1) x hx).1
    have hst8 := Pl.steps_len 0 hfw9
    refine rw_p rfl rfl (y_assign rfl) ?_
    refine rw_done ?_
    refine gn_sq ?_
    refine HW_seq rfl ?_
    refine HW_seq rfl ?_
    refine HW_text (.pure 0 (.pure 1 .done)) (by kernel_rfl) ?_
    refine rw_p rfl rfl (y_move rfl) ?_
    refine rw_p rfl rfl (y_pnil rfl rfl pb25) ?_
    refine rw_done ?_
    refine gn_sq ?_
    refine HW_condF rfl rfl rfl ?_
    refine HW_skip rfl ?_
    refine gn_sq ?_
    refine HW_seq rfl ?_
    refine HW_text (.pure 0 (.act 1 (.pure 2 .done))) (by kernel_rfl) ?_
    refine rw_p rfl rfl (y_move rfl) ?_
    refine a_call rfl rfl rfl go14 (p_len m_p s p_f cap_f p_b cap_b p_l cap_l ys _ (hm.get (k := 0) rfl) (ha_f.rd hm 1 rfl) (ha_b.rd hm 2 rfl) (ha_l.rd hm 3 rfl) hfw9 hmx9) fun v w hR => ?_
    obtain ⟨rfl, hE⟩ := hR
    refine ⟨trivial, ?_⟩
    replace hm := hm.ext hE
    obtain ⟨nn, hnn⟩ : ∃ nn : Nat, (Pl.first s (ys.map CmdV.cm) (ys.map CmdV.cm).length) = nn := ⟨(Pl.steps s 0 (ys.map CmdV.cm)).length, by omega⟩
    refine rw_p rfl rfl (y_assign rfl) ?_
    refine rw_done ?_
    refine gn_sq ?_
    refine HW_seq rfl ?_
    refine HW_text (.pure 0 .done) (by kernel_rfl) ?_
    refine rw_p rfl rfl (y_assign rfl) ?_
    refine rw_done ?_
    refine gn_sq ?_
    refine HW_via (ι := Int) rfl (ks := [5, 6, 9, 10]) (.cons rfl (.cons rfl (.cons rfl (.cons rfl .nil)))) (fun kk => [(11, .int .i64 kk)]) (fun kk w => Mem w0 w No ((m_p, .row 64 (plV s p_f (firstL s (ys.map CmdV.cm)).length cap_f p_b cap_b p_l ys.length cap_l)) :: (g_f, b_f) :: (g_b, b_b) :: (g_l, b_l) :: (m1, .row 51 [.slice r f.length cr, .int .i64 a, .int .i64 b]) :: B_y) ∧ 0 ≤ kk ∧ kk ≤ (Pl.first s (ys.map CmdV.cm) (ys.map CmdV.cm).length)) ?_ (fun kk w hM => ?_)
    ·
      refine HW_seq rfl ?_
      refine HW_text (.pure 0 (.pure 1 (.pure 2 (.pure 3 (.pure 4 (.pure 5 (.pure 6 .done))))))) (by kernel_rfl) ?_
      refine rw_p rfl rfl (y_move rfl) ?_
      refine rw_p rfl rfl (y_gt rfl rfl) ?_
      refine rw_p rfl rfl (y_move rfl) ?_
      refine rw_g rfl rfl rfl (fun hc => (y_fieldAddr rfl fo51_1)) ?_
      refine rw_g rfl rfl rfl (fun hc => (y_load (gx hc rfl) sc3 (hm.nt 4 rfl) rfl)) ?_
      refine rw_g rfl rfl rfl (fun hc => (y_gt (gx hc rfl) rfl)) ?_
      refine rw_p rfl rfl (y_and rfl rfl rfl) ?_
      refine rw_done ?_
      refine gn_sq ?_
      refine HW_cond rfl rfl (fun hc2 => ?_) (fun hc2 => ?_)
      ·
        simp only [Bool.and_eq_true, decide_eq_true_eq] at hc2
        have hkb : 0 ≤ a.tmod (Pl.first s (ys.map CmdV.cm) (ys.map CmdV.cm).length) ∧ a.tmod (Pl.first s (ys.map CmdV.cm) (ys.map CmdV.cm).length) ≤ (Pl.first s (ys.map CmdV.cm) (ys.map CmdV.cm).length) := ⟨Int.tmod_nonneg _ (by omega), by have := Int.tmod_lt_of_pos a (by omega : 0 < (Pl.first s (ys.map CmdV.cm) (ys.map CmdV.cm).length)); omega⟩
        refine HW_text (.pure 0 (.pure 1 (.pure 2 (.pure 3 (.pure 4 .done))))) (by kernel_rfl) ?_
        refine rw_p rfl rfl (y_fieldAddr rfl fo51_1) ?_
        refine rw_p rfl rfl (y_load rfl sc3 (hm.nt 4 rfl) rfl) ?_
        refine rw_p rfl rfl (y_move rfl) ?_
        refine rw_p rfl rfl (y_rem rfl rfl (by omega) rfl) ?_
        refine rw_p rfl rfl (y_assign rfl) ?_
        refine rw_done ?_
        refine gn_vi _ ⟨(hm.pickT [0, 1, 2, 3, 4] 5 rfl), ?_⟩ ⟨rfl, rfl, rfl, rfl, rfl, trivial⟩
        first | exact hkb | (constructor <;> omega)
      ·
        refine HW_skip rfl ?_
        refine gn_vi _ ⟨(hm.pickT [0, 1, 2, 3, 4] 5 rfl), ?_⟩ ⟨rfl, rfl, rfl, rfl, rfl, trivial⟩
        first | exact hkb | (constructor <;> omega)
    ·
      obtain ⟨hm, hkk⟩ := hM
      refine HW_seq rfl ?_
      refine HW_text (.pure 0 (.pure 1 (.pure 2 (.pure 3 (.act 4 (.pure 5 (.pure 6 (.pure 7 (.pure 8 (.pure 9 .done)))))))))) (by kernel_rfl) ?_
      refine rw_p rfl rfl (y_move rfl) ?_
      refine rw_p rfl rfl (y_fieldAddr rfl fo51_0) ?_
      refine rw_p rfl rfl (y_load rfl sc32 (hm.nt 4 rfl) rfl) ?_
      refine rw_p rfl rfl (y_move rfl) ?_
      refine a_call rfl rfl rfl go24 (p_run (0) ((Pl.first s (ys.map CmdV.cm) (ys.map CmdV.cm).length)) r cr f m_p s p_f cap_f p_b cap_b p_l cap_l ys _ (hm.get (k := 0) rfl) (ha_f.rd hm 1 rfl) (ha_b.rd hm 2 rfl) (ha_l.rd hm 3 rfl) hfw9 hmx9 (fun y hy => ⟨(hH y hy).okN hm (by intro e he; simp [he, setB]), hdl y hy⟩) ⟨hs, hs1⟩ (hfb.rd.ext0 hm.to) ⟨hfb.le, by omega⟩ hfb.spot (by simp only [Pl.I64]; omega) (by rw [← hst9y]; exact hbd)) fun v w hR => ?_
      obtain ⟨n_e, cap_e, g_e, b_e, p_e, rfl, ha_e, hn_e, hmc⟩ := hR
      subst hn_e
      refine ⟨trivial, ?_⟩
      replace hm := hm.callN hmc
      have hle_e := Pl.runP_le (f := f) (st := (Pl.steps s 0 (ys.map CmdV.cm))) (a := 0) (b := (Pl.first s (ys.map CmdV.cm) (ys.map CmdV.cm).length)) hsc
      refine rw_p rfl rfl (y_move rfl) ?_
      refine rw_p rfl rfl (y_extract rfl rfl) ?_
      refine rw_p rfl rfl (y_extract rfl rfl) ?_
      refine rw_p rfl rfl (y_assign rfl) ?_
      refine rw_p rfl rfl (y_assign rfl) ?_
      refine rw_done ?_
      refine gn_sq ?_
      refine HW_seq rfl ?_
      refine HW_seq rfl ?_
      refine HW_text (.pure 0 (.pure 1 .done)) (by kernel_rfl) ?_
      refine rw_p rfl rfl (y_move rfl) ?_
      refine rw_p rfl rfl (y_not rfl) ?_
      refine rw_done ?_
      refine gn_sq ?_
      refine HW_cond rfl rfl (fun hc3 => ?_) (fun hc3 => ?_)
      ·
        have hnone : (Pl.runP f (Pl.steps s 0 (ys.map CmdV.cm)) 0 (Pl.first s (ys.map CmdV.cm) (ys.map CmdV.cm).length)).isSome = false := by simpa using hc3
        have hn0 : Pl.runP f (Pl.steps s 0 (ys.map CmdV.cm)) 0 (Pl.first s (ys.map CmdV.cm) (ys.map CmdV.cm).length) = none := by simpa using hnone
        refine HW_seq rfl ?_
        refine HW_text (.act 0 (.pure 1 (.pure 2 (.pure 3 (.pure 4 (.pure 5 (.pure 6 .done))))))) (by kernel_rfl) ?_
        refine a_call rfl rfl rfl go10 (law_alive _) fun v w hR => ?_
        obtain ⟨rfl, hE⟩ := hR
        refine ⟨trivial, ?_⟩
        replace hm := hm.ext hE
        refine rw_p rfl rfl (y_move rfl) ?_
        refine rw_p rfl rfl (y_move rfl) ?_
        refine rw_p rfl rfl (y_len rfl rfl sl32) ?_
        refine rw_p rfl rfl (y_as (c := true) (y_eq rfl rfl) (by rw [hn0]; simp)) ?_
        refine rw_p rfl rfl (y_pickT rfl rfl) ?_
        refine rw_p rfl rfl (y_assign rfl) ?_
        refine rw_done ?_
        refine gn_sq ?_
        refine HW_ret rfl ?_
        refine gr_sq ?_
        refine toR (fin hret rfl (.tmp rfl .nil) .one ?_)
        exact ⟨rfl, hm.to⟩
      ·
        have hsome : (Pl.runP f (Pl.steps s 0 (ys.map CmdV.cm)) 0 (Pl.first s (ys.map CmdV.cm) (ys.map CmdV.cm).length)).isSome = true := by simpa using hc3
        obtain ⟨G, hG⟩ := Option.isSome_iff_exists.1 hsome
        obtain ⟨A, hA1, hA2, hA3⟩ := Pl.runP_parts (k := kk) hsc hkk hG
        refine HW_skip rfl ?_
        refine gn_sq ?_
        refine HW_seq rfl ?_
        refine HW_text (.pure 0 (.pure 1 (.pure 2 (.pure 3 (.act 4 (.pure 5 (.pure 6 (.pure 7 (.pure 8 (.pure 9 .done)))))))))) (by kernel_rfl) ?_
        refine rw_p rfl rfl (y_move rfl) ?_
        refine rw_p rfl rfl (y_fieldAddr rfl fo51_0) ?_
        refine rw_p rfl rfl (y_load rfl sc32 (hm.nt 5 rfl) rfl) ?_
        refine rw_p rfl rfl (y_move rfl) ?_
        refine a_call rfl rfl rfl go24 (p_run (0) (kk) r cr f m_p s p_f cap_f p_b cap_b p_l cap_l ys _ (hm.get (k := 1) rfl) (ha_f.rd hm 2 rfl) (ha_b.rd hm 3 rfl) (ha_l.rd hm 4 rfl) hfw9 hmx9 (fun y hy => ⟨(hH y hy).okN hm (by intro e he; simp [he, setB]), hdl y hy⟩) ⟨hs, hs1⟩ (hfb.rd.ext0 hm.to) ⟨hfb.le, by omega⟩ hfb.spot (by simp only [Pl.I64]; omega) (by rw [← hst9y]; exact hbd)) fun v w hR => ?_
        obtain ⟨n_z, cap_z, g_z, b_z, p_z, rfl, ha_z, hn_z, hmc⟩ := hR
        subst hn_z
        refine ⟨trivial, ?_⟩
        replace hm := hm.callN hmc
        have hzl : ((Pl.runP f (Pl.steps s 0 (ys.map CmdV.cm)) 0 kk).getD []).length = f.length := by rw [hA1]; exact hA2
        refine rw_p rfl rfl (y_move rfl) ?_
        refine rw_p rfl rfl (y_extract rfl rfl) ?_
        refine rw_p rfl rfl (y_extract rfl rfl) ?_
        refine rw_p rfl rfl (y_assign rfl) ?_
        refine rw_p rfl rfl (y_assign rfl) ?_
        refine rw_done ?_
        refine gn_sq ?_
        refine HW_seq rfl ?_
        refine HW_text (.pure 0 (.pure 1 (.pure 2 (.pure 3 (.act 4 (.pure 5 (.pure 6 (.pure 7 (.pure 8 (.pure 9 .done)))))))))) (by kernel_rfl) ?_
        refine rw_p rfl rfl (y_move rfl) ?_
        refine rw_p rfl rfl (y_move rfl) ?_
        refine rw_p rfl rfl (y_move rfl) ?_
        refine rw_p rfl rfl (y_move rfl) ?_
        refine a_call rfl rfl rfl go24 (p_run (kk) ((Pl.first s (ys.map CmdV.cm) (ys.map CmdV.cm).length)) p_z cap_z ((Pl.runP f (Pl.steps s 0 (ys.map CmdV.cm)) 0 kk).getD []) m_p s p_f cap_f p_b cap_b p_l cap_l ys _ (hm.get (k := 2) rfl) (ha_f.rd hm 3 rfl) (ha_b.rd hm 4 rfl) (ha_l.rd hm 5 rfl) hfw9 hmx9 (fun y hy => ⟨(hH y hy).okN hm (by intro e he; simp [he, setB]), hdl y hy⟩) ⟨hs, hs1⟩ (ha_z.rd hm 0 rfl) ⟨ha_z.le, by omega⟩ (fun h => ha_z.spot h) (by simp only [Pl.I64]; omega) (by rw [← hst9y]; exact hbd)) fun v w hR => ?_
        obtain ⟨n_t, cap_t, g_t, b_t, p_t, rfl, ha_t, hn_t, hmc⟩ := hR
        subst hn_t
        refine ⟨trivial, ?_⟩
        replace hm := hm.callN hmc
        have htl9 : Pl.runP ((Pl.runP f (Pl.steps s 0 (ys.map CmdV.cm)) 0 kk).getD []) (Pl.steps s 0 (ys.map CmdV.cm)) kk (Pl.first s (ys.map CmdV.cm) (ys.map CmdV.cm).length) = some G := by rw [hA1]; exact hA3
        have htl8 : G.length = f.length := Pl.runP_len hsc hG
        refine rw_p rfl rfl (y_move rfl) ?_
        refine rw_p rfl rfl (y_extract rfl rfl) ?_
        refine rw_p rfl rfl (y_extract rfl rfl) ?_
        refine rw_p rfl rfl (y_assign rfl) ?_
        refine rw_p rfl rfl (y_assign rfl) ?_
        refine rw_done ?_
        refine gn_sq ?_
        refine HW_seq rfl ?_
        refine HW_text (.act 0 (.pure 1 (.pure 2 (.pure 3 (.pure 4 (.pure 5 (.pure 6 (.pure 7 (.pure 8 (.pure 9 (.act 10 (.pure 11 (.pure 12 .done))))))))))))) (by kernel_rfl) ?_
        refine a_call rfl rfl rfl go10 (law_alive _) fun v w hR => ?_
        obtain ⟨rfl, hE⟩ := hR
        refine ⟨trivial, ?_⟩
        replace hm := hm.ext hE
        refine rw_p rfl rfl (y_move rfl) ?_
        refine rw_p rfl rfl (y_as (c := true) (y_move rfl) (by rw [hA1]; rfl)) ?_
        refine rw_p rfl rfl (y_pickT rfl rfl) ?_
        refine rw_p rfl rfl (y_move rfl) ?_
        refine rw_p rfl rfl (y_as (c := true) (y_move rfl) (by rw [htl9]; rfl)) ?_
        refine rw_p rfl rfl (y_pickT rfl rfl) ?_
        refine rw_p rfl rfl (y_move rfl) ?_
        refine rw_p rfl rfl (y_move rfl) ?_
        refine rw_p rfl rfl (y_move rfl) ?_
        refine a_call rfl rfl rfl go22 (C.as (v := .bool true) (eq_b p_t p_e cap_t cap_e ((Pl.runP ((Pl.runP f (Pl.steps s 0 (ys.map CmdV.cm)) 0 kk).getD []) (Pl.steps s 0 (ys.map CmdV.cm)) kk (Pl.first s (ys.map CmdV.cm) (ys.map CmdV.cm).length)).getD []) ((Pl.runP f (Pl.steps s 0 (ys.map CmdV.cm)) 0 (Pl.first s (ys.map CmdV.cm) (ys.map CmdV.cm).length)).getD []) _ (ha_t.rd hm 0 rfl) (ha_e.rd hm 2 rfl) (by rw [htl9]; simp only [Option.getD_some]; omega) (by rw [hG]; simp only [Option.getD_some]; omega)) (congrArg Value.bool (by rw [htl9, hG]; simp))) fun v w hR => ?_
        obtain ⟨rfl, hE⟩ := hR
        refine ⟨trivial, ?_⟩
        replace hm := hm.ext hE
        refine rw_p rfl rfl (y_pickT rfl rfl) ?_
        refine rw_p rfl rfl (y_assign rfl) ?_
        refine rw_done ?_
        refine gn_sq ?_
        refine HW_ret rfl ?_
        refine toR (fin hret rfl (.tmp rfl .nil) .one ?_)
        exact ⟨rfl, hm.to⟩

end Go.Proofs.Ytpandemmaoeioaa
