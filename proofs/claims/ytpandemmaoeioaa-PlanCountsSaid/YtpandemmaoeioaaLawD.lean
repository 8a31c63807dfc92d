/- Contracts of functions of the program: what each returns. Conditions: the hypotheses of each theorem. -/
import Derived.Test.YtpandemmaoeioaaLawB
import Derived.Test.YtpandemmaoeioaaCxU
set_option linter.unusedVariables false
set_option linter.unusedSimpArgs false
namespace Go.Proofs.Ytpandemmaoeioaa
open Go Go.Cx

theorem ar42 : arrO Try.prog 42 = some (2, 3, 1) := by kernel_rfl
theorem go10 : isGo Try.prog 10 = true := by kernel_rfl
theorem go12 : isGo Try.prog 12 = true := by kernel_rfl
theorem go13 : isGo Try.prog 13 = true := by kernel_rfl
theorem go18 : isGo Try.prog 18 = true := by kernel_rfl
theorem go20 : isGo Try.prog 20 = true := by kernel_rfl
theorem go9 : isGo Try.prog 9 = true := by kernel_rfl

set_option maxHeartbeats 1600000 in
theorem law_counts (s : Int) (q : Option Addr) (cq : Nat) (xs : List CmdV) (a b : Int) (w0 : World) (hq : Rd w0 q (xs.flatMap encC)) (hok0 : ∀ c ∈ xs, okC w0 c) (hq2 : xs.length ≤ cq ∧ cq ≤ 9223372036854775807) (hs : Pl.I64 s) (hqs : cq ≠ 0 → ∀ ad, q = some ad → ad.spot = none) (ha : Pl.I64 a) (hb : Pl.I64 b) : C Try.prog 4 [.int .i64 s, .slice q xs.length cq, .agg ⟨[.int .i64 a, .int .i64 b]⟩] w0 fun v w' => v = .bool true ∧ Ext No w0 w' := by
  refine C_of Try.func4 rfl rfl rfl fun κ hret hnorm => ?_
  have hm := Mem.start w0
  refine HW_seq rfl ?_
  refine HW_text (.act 0 (.pure 1 .done)) (by kernel_rfl) ?_
  refine a_box rfl rfl rfl rfl hm trivial fun m1 w hg_m1 hm hh => ?_
  refine rw_p rfl rfl (y_assign rfl) ?_
  refine rw_done ?_
  refine gn_sq ?_
  refine HW_seq rfl ?_
  refine HW_seq rfl ?_
  refine HW_text (.pure 0 (.pure 1 (.pure 2 (.pure 3 (.pure 4 (.act 5 (.pure 6 (.pure 7 (.pure 8 (.pure 9 (.pure 10 .done))))))))))) (by kernel_rfl) ?_
  refine rw_p rfl rfl (y_move rfl) ?_
  refine rw_p rfl rfl (y_move rfl) ?_
  refine rw_p rfl rfl (y_len rfl rfl sl22) ?_
  refine rw_p rfl rfl (y_min rfl rfl) ?_
  refine rw_p rfl rfl (y_v (y_slice (ln := 0) (hn := (min xs.length 60)) rfl sl22 rfl ⟨_, congrArg (fun x => some (Value.int .i64 x)) (by omega)⟩ (by omega) (by omega) (fun h => hqs (by omega))) (show _ = Value.slice (slp q cq 0 5) (xs.take 60).length (cq - 0) by rw [List.length_take, Nat.sub_zero, Nat.min_comm])) ?_
  refine a_call rfl rfl rfl go12 (law_total (slp q cq 0 5) (cq - 0) (xs.take 60) _ ((hq.ext0 hm.to).slpT hq2.1 60) (by rw [List.length_take]; omega)) fun v w hR => ?_
  obtain ⟨rfl, hE⟩ := hR
  refine ⟨trivial, ?_⟩
  replace hm := hm.ext hE
  refine rw_p rfl rfl (y_move rfl) ?_
  refine rw_p rfl rfl (y_extract rfl rfl) ?_
  refine rw_p rfl rfl (y_extract rfl rfl) ?_
  refine rw_p rfl rfl (y_assign rfl) ?_
  refine rw_p rfl rfl (y_assign rfl) ?_
  refine rw_done ?_
  refine gn_sq ?_
  refine HW_seq rfl ?_
  refine HW_text (.pure 0 (.pure 1 (.act 2 (.pure 3 (.pure 4 (.pure 5 (.pure 6 (.pure 7 .done)))))))) (by kernel_rfl) ?_
  refine rw_p rfl rfl (y_move rfl) ?_
  refine rw_p rfl rfl (y_move rfl) ?_
  refine a_call rfl rfl rfl go9 (r18_few s q cq xs _ (hq.ext0 hm.to) (fun c hc => ⟨(hok0 c hc).1, (hok0 c hc).2.1, (hok0 c hc).2.2.1, (hok0 c hc).2.2.2.1, (hok0 c hc).2.2.2.2.ext hm.to⟩) (by omega) hs) fun v w hR => ?_
  obtain ⟨bo, rfl, hfew, hE⟩ := hR
  refine ⟨trivial, ?_⟩
  replace hm := hm.ext hE
  refine rw_p rfl rfl (y_not rfl) ?_
  refine rw_p rfl rfl (y_move rfl) ?_
  refine rw_g rfl rfl rfl (fun hc => (y_move rfl)) ?_
  refine rw_g rfl rfl rfl (fun hc => (y_not (gx hc rfl))) ?_
  refine rw_p rfl rfl (y_or rfl rfl rfl) ?_
  refine rw_done ?_
  refine gn_sq ?_
  refine HW_cond rfl rfl (fun hc0 => ?_) (fun hc0 => ?_)
  ·
    refine HW_seq rfl ?_
    refine HW_text (.act 0 (.pure 1 .done)) (by kernel_rfl) ?_
    refine a_call rfl rfl rfl go10 (law_alive _) fun v w hR => ?_
    obtain ⟨rfl, hE⟩ := hR
    refine ⟨trivial, ?_⟩
    replace hm := hm.ext hE
    refine rw_p rfl rfl (y_assign rfl) ?_
    refine rw_done ?_
    refine gn_sq ?_
    refine HW_ret rfl ?_
    refine gr_sq ?_
    refine toR (fin hret rfl (.tmp rfl .nil) .one ?_)
    exact ⟨rfl, hm.to⟩
  ·
    simp only [Bool.or_eq_false_iff, Bool.not_eq_false'] at hc0
    have hbt := hc0.1
    obtain ⟨hn30, hs1, hall, hn300⟩ := hfew hbt
    have hok : ∀ c ∈ xs, Pl.ccheck c.cm = 0 ∧ c.d.ok w0 ∧ c.d.bs.length ≤ 140737488355328 := fun c hc => ⟨(hall c hc).1, (hok0 c hc).2.2.2.2, by have := (hall c hc).2.1; omega⟩
    have hfw : Pl.fewC s (xs.map CmdV.cm) := by intro d hd; obtain ⟨c, hc, rfl⟩ := List.mem_map.1 hd; exact ⟨(hall c hc).1, by have := (hall c hc).2.2; omega⟩
    have hmx : xs.length ≤ 1000000 ∧ Pl.first s (xs.map CmdV.cm) (xs.map CmdV.cm).length ≤ 4611686018427387903 := ⟨by omega, by rw [List.length_map]; omega⟩
    have hst9 := Pl.steps_len 0 hfw
    have hbd : (Pl.steps s 0 (xs.map CmdV.cm)).length ≤ 1000000 := by rw [List.length_map] at hst9; omega
    have htw : Pl.totW 0 (Pl.targets (xs.map CmdV.cm)) = Pl.total 0 (Pl.targets (xs.map CmdV.cm)) := Pl.totW_eq (by decide) (by decide) (Pl.targets_ok (fun d hd => (hfw d hd).1))
    have hT : (Pl.total 0 (Pl.targets (xs.map CmdV.cm))).isSome = true := by have h9 := hc0.2; rw [List.take_of_length_le (by omega), htw] at h9; exact h9
    refine HW_skip rfl ?_
    refine gn_sq ?_
    refine HW_seq rfl ?_
    refine HW_text (.pure 0 (.pure 1 (.act 2 (.pure 3 .done)))) (by kernel_rfl) ?_
    refine rw_p rfl rfl (y_move rfl) ?_
    refine rw_p rfl rfl (y_move rfl) ?_
    refine a_call rfl rfl rfl go11 (p_newS s q cq xs _ (hq.ext0 hm.to) (fun c hc => ⟨(hok c hc).1, (hok c hc).2.1.ext hm.to, (hok c hc).2.2⟩) ⟨hs, hs1⟩ hfw hmx hT) fun v w hR => ?_
    obtain ⟨m_p, p_f, p_b, p_l, cap_f, cap_b, cap_l, g_f, g_b, g_l, b_f, b_b, b_l, ys, B_y, rfl, ha_f, ha_b, ha_l, hym, hH, hmc⟩ := hR
    refine ⟨trivial, ?_⟩
    replace hm := hm.callT (N1 := [_, _, _, _]) hmc
    have hfw9 := hfw
    have hmx9 := hmx
    have hyl : ys.length = xs.length := by have := congrArg List.length hym; simpa using this
    rw [← hym] at hfw9
    have hmx9 : (ys.map CmdV.cm).length ≤ 1000000 ∧ Pl.first s (ys.map CmdV.cm) (ys.map CmdV.cm).length ≤ 4611686018427387903 := by rw [hym]; exact ⟨by rw [List.length_map]; exact hmx.1, hmx.2⟩
    have hdl : ∀ y ∈ ys, y.d.bs.length ≤ 140737488355328 := fun y hy => by
      have hy9 : y.cm ∈ ys.map CmdV.cm := List.mem_map.2 ⟨y, hy, rfl⟩
      rw [hym] at hy9
      obtain ⟨c9, hc9, e9⟩ := List.mem_map.1 hy9
      have h9 := (hok c9 hc9).2.2
      have e8 : c9.d.bs = y.d.bs := congrArg Pl.Cm.bs e9
      rw [← e8]; exact h9
    refine rw_p rfl rfl (y_assign rfl) ?_
    refine rw_done ?_
    refine gn_sq ?_
    refine HW_seq rfl ?_
    refine HW_seq rfl ?_
    refine HW_text (.pure 0 (.pure 1 .done)) (by kernel_rfl) ?_
    refine rw_p rfl rfl (y_move rfl) ?_
    refine rw_p rfl rfl (y_pnil rfl rfl pb25) ?_
    refine rw_done ?_
    refine gn_sq ?_
    refine HW_condF rfl rfl rfl ?_
    refine HW_skip rfl ?_
    refine gn_sq ?_
    refine HW_seq rfl ?_
    refine HW_text (.pure 0 (.pure 1 (.act 2 (.pure 3 .done)))) (by kernel_rfl) ?_
    refine rw_p rfl rfl (y_move rfl) ?_
    refine rw_p rfl rfl (y_move rfl) ?_
    refine a_call rfl rfl rfl go13 (C.eqv (r18_steps s q cq xs _ (hq.ext0 hm.to) (fun c hc => ⟨(hok c hc).1, (hok c hc).2.1.ext hm.to, (hok c hc).2.2⟩) hs hmx.1 hbd) rfl) fun v w hR => ?_
    rw [← hym] at hR
    obtain ⟨ts, p_u, n_u, cap_u, g_u, b_u, B_u, rfl, ha_u, htm, hHt, hmc⟩ := hR
    refine ⟨trivial, ?_⟩
    replace hm := hm.callT1 hmc
    obtain rfl := ha_u.lenE encT_len (by decide)
    have htl : ts.length = (Pl.steps s 0 (ys.map CmdV.cm)).length := by have := congrArg List.length htm; rw [List.length_map, stT_len] at this; exact this
    have hst8 := Pl.steps_len 0 hfw9
    have htl9 : Pl.first s (ys.map CmdV.cm) (ys.map CmdV.cm).length = (ts.length : Int) := by omega
    obtain ⟨T9, hT9⟩ := Option.isSome_iff_exists.1 hT
    have hbe := (Pl.total_before hT9 (by decide) (fun d hd => Pl.clen_nonneg (hfw d hd).1) (xs.map CmdV.cm).length).2
    rw [Int.zero_add] at hbe
    have hwb := Pl.wsum_bnd hs1 hfw9 (by rw [hym]; exact hbe)
    have hwt : ∀ j, 0 ≤ wsumT (ts.take j) ∧ wsumT (ts.take j) ≤ 4611686018427387903 := fun j => by rw [wsumT_eq htm]; exact hwb j
    have hidx : ∀ k, Pl.idx (fun t => decide (t.2.1 = k)) ts = if 0 ≤ k ∧ k < (ys.length : Nat) then Pl.first s (ys.map CmdV.cm) k.toNat else -1 := fun k => by rw [idxT htm, Pl.steps_first hs1 hfw9, List.length_map]
    refine rw_p rfl rfl (y_assign rfl) ?_
    refine rw_done ?_
    refine gn_sq ?_
    refine HW_seq rfl ?_
    refine HW_draw (.act 0 (.pure 1 (.pure 2 (.pure 3 (.pure 4 (.pure 6 (.pure 7 (.pure 8 (.act 5 (.act 9 (.pure 10 (.pure 11 (.pure 12 (.pure 13 (.pure 14 (.pure 15 (.pure 17 (.pure 18 (.pure 19 (.act 16 (.act 20 (.pure 21 (.pure 22 (.pure 23 (.pure 24 (.pure 25 (.pure 28 (.pure 29 (.pure 30 (.act 26 (.act 27 (.cut (.act 31 (.pure 32 (.pure 33 (.pure 34 .done)))))))))))))))))))))))))))))))))))) No mix (by kernel_rfl) hm fun w hw hm0 hh => ?_
    have hm := hm0
    refine a_call rfl rfl rfl go10 (law_alive _) fun v w hR => ?_
    obtain ⟨rfl, hE⟩ := hR
    refine ⟨hh.ext hE, ?_⟩
    replace hm := hm.ext hE
    replace hh := hh.ext hE
    refine rw_p rfl rfl (y_move rfl) ?_
    refine rw_p rfl rfl (y_move rfl) ?_
    refine rw_p rfl rfl (y_indexP rfl rfl ar42 (by omega) (by omega)) ?_
    refine rw_p rfl rfl (y_load rfl sc3 (hm0.nd 5 rfl id) rfl) ?_
    refine rw_p rfl rfl (y_move rfl) ?_
    refine rw_p rfl rfl (y_indexP rfl rfl ar42 (by omega) (by omega)) ?_
    refine rw_p rfl rfl (y_load rfl sc3 (hm0.nd 5 rfl id) rfl) ?_
    refine a_call rfl rfl rfl go17 (p_first a m_p s p_f cap_f p_b cap_b p_l cap_l ys _ (hm.get (k := 1) rfl) (ha_f.rd hm 2 rfl) (ha_b.rd hm 3 rfl) (ha_l.rd hm 4 rfl) hfw9 hmx9 ha) fun v w hR => ?_
    obtain ⟨rfl, hE⟩ := hR
    refine ⟨hh.ext hE, ?_⟩
    replace hm := hm.ext hE
    replace hh := hh.ext hE
    refine a_call rfl rfl rfl go18 (r18_first p_u cap_u ts _ (ha_u.rd hm 0 rfl) (by omega) a) fun v w hR => ?_
    obtain ⟨rfl, hE⟩ := hR
    refine ⟨hh.ext hE, ?_⟩
    replace hm := hm.ext hE
    replace hh := hh.ext hE
    refine rw_p rfl rfl (y_as (c := true) (y_eq rfl rfl) (by rw [hidx]; simp)) ?_
    refine rw_p rfl rfl (y_pickT rfl rfl) ?_
    refine rw_p rfl rfl (y_move rfl) ?_
    refine rw_p rfl rfl (y_move rfl) ?_
    refine rw_p rfl rfl (y_indexP rfl rfl ar42 (by omega) (by omega)) ?_
    refine rw_p rfl rfl (y_load rfl sc3 (hm0.nd 5 rfl id) rfl) ?_
    refine rw_p rfl rfl (y_move rfl) ?_
    refine rw_p rfl rfl (y_indexP rfl rfl ar42 (by omega) (by omega)) ?_
    refine rw_p rfl rfl (y_load rfl sc3 (hm0.nd 5 rfl id) rfl) ?_
    refine a_call rfl rfl rfl go19 (p_written b m_p s p_f cap_f p_b cap_b p_l cap_l ys _ (hm.get (k := 1) rfl) (ha_f.rd hm 2 rfl) (ha_b.rd hm 3 rfl) (ha_l.rd hm 4 rfl) hfw9 hmx9 (fun y hy => ⟨(hH y hy).okN hm (by intro e he; simp [he, setB]), hdl y hy⟩) ⟨hs, hs1⟩ hb hwb) fun v w hR => ?_
    obtain ⟨rfl, hE⟩ := hR
    refine ⟨hh.ext hE, ?_⟩
    replace hm := hm.ext hE
    replace hh := hh.ext hE
    refine a_call rfl rfl rfl go20 (r18_written p_u cap_u ts _ (ha_u.rd hm 0 rfl) (by omega) b hwt) fun v w hR => ?_
    obtain ⟨rfl, hE⟩ := hR
    refine ⟨hh.ext hE, ?_⟩
    replace hm := hm.ext hE
    replace hh := hh.ext hE
    refine rw_p rfl rfl (y_as (c := true) (y_eq rfl rfl) (by rw [wsumT_eq htm]; simp)) ?_
    refine rw_p rfl rfl (y_pickT rfl rfl) ?_
    refine rw_p rfl rfl (y_move rfl) ?_
    refine rw_p rfl rfl (y_move rfl) ?_
    refine rw_p rfl rfl (y_move rfl) ?_
    refine rw_p rfl rfl (y_move rfl) ?_
    refine rw_p rfl rfl (y_move rfl) ?_
    refine rw_p rfl rfl (y_len rfl rfl sl29) ?_
    refine a_call rfl rfl rfl go14 (p_len m_p s p_f cap_f p_b cap_b p_l cap_l ys _ (hm.get (k := 1) rfl) (ha_f.rd hm 2 rfl) (ha_b.rd hm 3 rfl) (ha_l.rd hm 4 rfl) hfw9 hmx9) fun v w hR => ?_
    obtain ⟨rfl, hE⟩ := hR
    refine ⟨hh.ext hE, ?_⟩
    replace hm := hm.ext hE
    replace hh := hh.ext hE
    refine a_call rfl rfl rfl go19 (p_written _ m_p s p_f cap_f p_b cap_b p_l cap_l ys _ (hm.get (k := 1) rfl) (ha_f.rd hm 2 rfl) (ha_b.rd hm 3 rfl) (ha_l.rd hm 4 rfl) hfw9 hmx9 (fun y hy => ⟨(hH y hy).okN hm (by intro e he; simp [he, setB]), hdl y hy⟩) ⟨hs, hs1⟩ (by simp only [Pl.I64]; omega) hwb) fun v w hR => ?_
    obtain ⟨rfl, hE⟩ := hR
    refine ⟨hh.ext hE, ?_⟩
    replace hm := hm.ext hE
    replace hh := hh.ext hE
    refine a_cut ?_
    refine a_call rfl rfl rfl go20 (r18_written p_u cap_u ts _ (ha_u.rd hm 0 rfl) (by omega) _ hwt) fun v w hR => ?_
    obtain ⟨rfl, hE⟩ := hR
    refine ⟨trivial, ?_⟩
    replace hm := hm.ext hE
    refine rw_p rfl rfl (y_as (c := true) (y_eq rfl rfl) (by rw [wsumT_eq htm, htl9]; simp)) ?_
    refine rw_p rfl rfl (y_pickT rfl rfl) ?_
    refine rw_p rfl rfl (y_assign rfl) ?_
    refine rw_done ?_
    refine gn_sq ?_
    refine HW_ret rfl ?_
    refine toR (fin hret rfl (.tmp rfl .nil) .one ?_)
    exact ⟨rfl, hm.to⟩

end Go.Proofs.Ytpandemmaoeioaa
