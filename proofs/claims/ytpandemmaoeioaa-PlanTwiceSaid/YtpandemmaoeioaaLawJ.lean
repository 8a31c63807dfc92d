/- Contracts of functions of the program: what each returns. Conditions: the hypotheses of each theorem. -/
import Derived.Test.YtpandemmaoeioaaLawH
set_option linter.unusedVariables false
set_option linter.unusedSimpArgs false
namespace Go.Proofs.Ytpandemmaoeioaa
open Go Go.Cx

theorem ag40 : aggS Try.prog 40 = some 7 := by kernel_rfl
theorem fo51_0 : fldO Try.prog 51 0 = some 0 := by kernel_rfl
theorem go10 : isGo Try.prog 10 = true := by kernel_rfl
theorem go12 : isGo Try.prog 12 = true := by kernel_rfl
theorem go13 : isGo Try.prog 13 = true := by kernel_rfl
theorem go22 : isGo Try.prog 22 = true := by kernel_rfl
theorem go23 : isGo Try.prog 23 = true := by kernel_rfl
theorem go24 : isGo Try.prog 24 = true := by kernel_rfl
theorem go9 : isGo Try.prog 9 = true := by kernel_rfl
theorem sz40 : szO Try.prog 40 = some 7 := by kernel_rfl

set_option maxHeartbeats 2000000 in
theorem law_twice (s : Int) (q : Option Addr) (cq : Nat) (xs : List CmdV) (r : Option Addr) (cr : Nat) (f : List UInt8) (a b : Int) (w0 : World) (hq : Rd w0 q (xs.flatMap encC)) (hok0 : ∀ c ∈ xs, okC w0 c) (hq2 : xs.length ≤ cq ∧ cq ≤ 9223372036854775807) (hs : Pl.I64 s) (hqs : cq ≠ 0 → ∀ ad, q = some ad → ad.spot = none) (hfb : SB.ok w0 ⟨r, cr, f⟩) (ha : Pl.I64 a) (hb : Pl.I64 b) : C Try.prog 8 [.int .i64 s, .slice q xs.length cq, .agg ⟨[.slice r f.length cr, .int .i64 a, .int .i64 b]⟩] w0 fun v w' => v = .bool true ∧ Ext No w0 w' := by
  have hf1 := hfb.le
  have hf2 := hfb.max
  simp only at hf1 hf2
  refine C_of Try.func8 rfl rfl rfl fun κ hret hnorm => ?_
  have hm := Mem.start w0
  refine HW_seq rfl ?_
  refine HW_text (.act 0 (.pure 1 .done)) (by kernel_rfl) ?_
  refine a_box rfl rfl rfl rfl hm trivial fun m1 w hg_m1 hm hh => ?_
  refine rw_p rfl rfl (y_assign rfl) ?_
  refine rw_done ?_
  refine gn_sq ?_
  refine HW_seq rfl ?_
  refine HW_seq rfl ?_
  refine HW_text (.pure 0 (.pure 1 (.pure 2 (.pure 3 (.pure 4 (.act 5 (.pure 6 (.pure 7 (.pure 8 (.pure 9 (.pure 10 .done))))))))))) (by kernel_rfl) ?_
  refine rw_p rfl rfl (y_move rfl) ?_
  refine rw_p rfl rfl (y_move rfl) ?_
  refine rw_p rfl rfl (y_len rfl rfl sl22) ?_
  refine rw_p rfl rfl (y_min rfl rfl) ?_
  refine rw_p rfl rfl (y_v (y_slice (ln := 0) (hn := (min xs.length 60)) rfl sl22 rfl ⟨_, congrArg (fun x => some (Value.int .i64 x)) (by omega)⟩ (by omega) (by omega) (fun h => hqs (by omega))) (show _ = Value.slice (slp q cq 0 5) (xs.take 60).length (cq - 0) by rw [List.length_take, Nat.sub_zero, Nat.min_comm])) ?_
  refine a_call rfl rfl rfl go12 (law_total (slp q cq 0 5) (cq - 0) (xs.take 60) _ ((hq.ext0 hm.to).slpT hq2.1 60) (by rw [List.length_take]; omega)) fun v w hR => ?_
  obtain ⟨rfl, hE⟩ := hR
  refine ⟨trivial, ?_⟩
  replace hm := hm.ext hE
  refine rw_p rfl rfl (y_move rfl) ?_
  refine rw_p rfl rfl (y_extract rfl rfl) ?_
  refine rw_p rfl rfl (y_extract rfl rfl) ?_
  refine rw_p rfl rfl (y_assign rfl) ?_
  refine rw_p rfl rfl (y_assign rfl) ?_
  refine rw_done ?_
  refine gn_sq ?_
  refine HW_seq rfl ?_
  refine HW_text (.pure 0 (.pure 1 (.act 2 (.pure 3 (.pure 4 (.pure 5 (.pure 6 (.pure 7 (.pure 8 (.pure 9 (.pure 10 (.pure 11 (.pure 12 (.pure 13 (.pure 14 (.pure 15 (.act 16 (.pure 17 (.pure 18 .done))))))))))))))))))) (by kernel_rfl) ?_
  refine rw_p rfl rfl (y_move rfl) ?_
  refine rw_p rfl rfl (y_move rfl) ?_
  refine a_call rfl rfl rfl go9 (r18_few s q cq xs _ (hq.ext0 hm.to) (fun c hc => ⟨(hok0 c hc).1, (hok0 c hc).2.1, (hok0 c hc).2.2.1, (hok0 c hc).2.2.2.1, (hok0 c hc).2.2.2.2.ext hm.to⟩) (by omega) hs) fun v w hR => ?_
  obtain ⟨bo, rfl, hfew, hE⟩ := hR
  refine ⟨trivial, ?_⟩
  replace hm := hm.ext hE
  refine rw_p rfl rfl (y_not rfl) ?_
  refine rw_p rfl rfl (y_move rfl) ?_
  refine rw_g rfl rfl rfl (fun hc => (y_move rfl)) ?_
  refine rw_g rfl rfl rfl (fun hc => (y_not (gx hc rfl))) ?_
  refine rw_p rfl rfl (y_or rfl rfl rfl) ?_
  refine rw_p rfl rfl (y_move rfl) ?_
  refine rw_g rfl rfl rfl (fun hc => (y_fieldAddr rfl fo51_0)) ?_
  refine rw_g rfl rfl rfl (fun hc => (y_load (gx hc rfl) sc32 (hm.nt 0 rfl) rfl)) ?_
  refine rw_g rfl rfl rfl (fun hc => (y_len (gx hc rfl) rfl sl32)) ?_
  refine rw_g rfl rfl rfl (fun hc => (y_gt (gx hc rfl) rfl)) ?_
  refine rw_p rfl rfl (y_or rfl rfl rfl) ?_
  refine rw_p rfl rfl (y_move rfl) ?_
  refine rw_g rfl rfl rfl (fun hc => (y_move rfl)) ?_
  refine a_callG rfl rfl rfl (fun hc => (evs_c (gx hc rfl) evs_n)) go23 (fun hc => (r16_shortB q cq xs _ (hq.ext0 hm.to) (by omega))) trivial fun w hE hh => ?_
  replace hm := hm.ext hE
  refine rw_g rfl rfl rfl (fun hc => (y_not (gx hc rfl))) ?_
  refine rw_p rfl rfl (y_or rfl rfl rfl) ?_
  refine rw_done ?_
  refine gn_sq ?_
  refine HW_cond rfl rfl (fun hc0 => ?_) (fun hc0 => ?_)
  ·
    refine HW_seq rfl ?_
    refine HW_text (.act 0 (.pure 1 .done)) (by kernel_rfl) ?_
    refine a_call rfl rfl rfl go10 (law_alive _) fun v w hR => ?_
    obtain ⟨rfl, hE⟩ := hR
    refine ⟨trivial, ?_⟩
    replace hm := hm.ext hE
    refine rw_p rfl rfl (y_assign rfl) ?_
    refine rw_done ?_
    refine gn_sq ?_
    refine HW_ret rfl ?_
    refine gr_sq ?_
    refine toR (fin hret rfl (.tmp rfl .nil) .one ?_)
    exact ⟨rfl, hm.to⟩
  ·
    simp only [Bool.or_eq_false_iff, Bool.not_eq_false', decide_eq_false_iff_not] at hc0
    have hc9 := hc0.1.1
    have hbt := hc9.1
    obtain ⟨hn30, hs1, hall, hn300⟩ := hfew hbt
    have hok : ∀ c ∈ xs, Pl.ccheck c.cm = 0 ∧ c.d.ok w0 ∧ c.d.bs.length ≤ 140737488355328 := fun c hc => ⟨(hall c hc).1, (hok0 c hc).2.2.2.2, by have := (hall c hc).2.1; omega⟩
    have hfw : Pl.fewC s (xs.map CmdV.cm) := by intro d hd; obtain ⟨c, hc, rfl⟩ := List.mem_map.1 hd; exact ⟨(hall c hc).1, by have := (hall c hc).2.2; omega⟩
    have hmx : xs.length ≤ 1000000 ∧ Pl.first s (xs.map CmdV.cm) (xs.map CmdV.cm).length ≤ 4611686018427387903 := ⟨by omega, by rw [List.length_map]; omega⟩
    have hst9 := Pl.steps_len 0 hfw
    have hbd : (Pl.steps s 0 (xs.map CmdV.cm)).length ≤ 1000000 := by rw [List.length_map] at hst9; omega
    have htw : Pl.totW 0 (Pl.targets (xs.map CmdV.cm)) = Pl.total 0 (Pl.targets (xs.map CmdV.cm)) := Pl.totW_eq (by decide) (by decide) (Pl.targets_ok (fun d hd => (hfw d hd).1))
    have hT : (Pl.total 0 (Pl.targets (xs.map CmdV.cm))).isSome = true := by have h9 := hc9.2; rw [List.take_of_length_le (by omega), htw] at h9; exact h9
    have h300 := hc0.1.2
    refine HW_skip rfl ?_
    refine gn_sq ?_
    refine HW_seq rfl ?_
    refine HW_text (.pure 0 (.pure 1 (.act 2 (.pure 3 .done)))) (by kernel_rfl) ?_
    refine rw_p rfl rfl (y_move rfl) ?_
    refine rw_p rfl rfl (y_move rfl) ?_
    refine a_call rfl rfl rfl go11 (p_newS s q cq xs _ (hq.ext0 hm.to) (fun c hc => ⟨(hok c hc).1, (hok c hc).2.1.ext hm.to, (hok c hc).2.2⟩) ⟨hs, hs1⟩ hfw hmx hT) fun v w hR => ?_
    obtain ⟨m_p, p_f, p_b, p_l, cap_f, cap_b, cap_l, g_f, g_b, g_l, b_f, b_b, b_l, ys, B_y, rfl, ha_f, ha_b, ha_l, hym, hH, hmc⟩ := hR
    refine ⟨trivial, ?_⟩
    replace hm := hm.callT (N1 := [_, _, _, _]) hmc
    have hfw9 := hfw
    have hmx9 := hmx
    have hyl : ys.length = xs.length := by have := congrArg List.length hym; simpa using this
    rw [← hym] at hfw9
    have hmx9 : (ys.map CmdV.cm).length ≤ 1000000 ∧ Pl.first s (ys.map CmdV.cm) (ys.map CmdV.cm).length ≤ 4611686018427387903 := by rw [hym]; exact ⟨by rw [List.length_map]; exact hmx.1, hmx.2⟩
    have hdl : ∀ y ∈ ys, y.d.bs.length ≤ 140737488355328 := fun y hy => by
      have hy9 : y.cm ∈ ys.map CmdV.cm := List.mem_map.2 ⟨y, hy, rfl⟩
      rw [hym] at hy9
      obtain ⟨c9, hc9, e9⟩ := List.mem_map.1 hy9
      have h9 := (hok c9 hc9).2.2
      have e8 : c9.d.bs = y.d.bs := congrArg Pl.Cm.bs e9
      rw [← e8]; exact h9
    have hst9y : Pl.steps s 0 (xs.map CmdV.cm) = Pl.steps s 0 (ys.map CmdV.cm) := by rw [hym]
    have hsc : ∀ x ∈ Pl.steps s 0 (ys.map CmdV.cm), Pl.ccheck x.2 = 0 := fun x hx => (Pl.steps_ok (b := 0) (fun c hc => (hfw9 c hc).1) x hx).1
    have hst8 := Pl.steps_len 0 hfw9
    refine rw_p rfl rfl (y_assign rfl) ?_
    refine rw_done ?_
    refine gn_sq ?_
    refine HW_seq rfl ?_
    refine HW_seq rfl ?_
    refine HW_text (.pure 0 (.pure 1 .done)) (by kernel_rfl) ?_
    refine rw_p rfl rfl (y_move rfl) ?_
    refine rw_p rfl rfl (y_pnil rfl rfl pb25) ?_
    refine rw_done ?_
    refine gn_sq ?_
    refine HW_condF rfl rfl rfl ?_
    refine HW_skip rfl ?_
    refine gn_sq ?_
    refine HW_seq rfl ?_
    refine HW_seq rfl ?_
    refine HW_text (.pure 0 (.pure 1 (.act 2 (.pure 3 (.pure 4 .done))))) (by kernel_rfl) ?_
    refine rw_p rfl rfl (y_move rfl) ?_
    refine rw_p rfl rfl (y_move rfl) ?_
    refine a_call rfl rfl rfl go13 (C.eqv (r18_steps s q cq xs _ (hq.ext0 hm.to) (fun c hc => ⟨(hok c hc).1, (hok c hc).2.1.ext hm.to, (hok c hc).2.2⟩) hs hmx.1 hbd) rfl) fun v w hR => ?_
    rw [← hym] at hR
    obtain ⟨ts, p_u, n_u, cap_u, g_u, b_u, B_u, rfl, ha_u, htm, hHt, hmc⟩ := hR
    refine ⟨trivial, ?_⟩
    replace hm := hm.callT1 hmc
    obtain rfl := ha_u.lenE encT_len (by decide)
    have htl : ts.length = (Pl.steps s 0 (ys.map CmdV.cm)).length := by have := congrArg List.length htm; rw [List.length_map, stT_len] at this; exact this
    have hst8 := Pl.steps_len 0 hfw9
    have htl9 : Pl.first s (ys.map CmdV.cm) (ys.map CmdV.cm).length = (ts.length : Int) := by omega
    refine rw_p rfl rfl (y_len rfl rfl sl29) ?_
    refine rw_p rfl rfl (y_move rfl) ?_
    refine rw_done ?_
    refine gn_sq ?_
    refine HW_block rfl ?_
    refine HW_loopK (ι := Nat) rfl (ks := [0, 1, 5, 9, 57, 58]) (.cons rfl (.cons rfl (.cons rfl (.cons rfl (.cons rfl (.cons rfl .nil)))))) (fun x => [(59, .int .i64 x)]) (fun x w => Mem w0 w No ((g_u, b_u) :: (m_p, .row 64 (plV s p_f (firstL s (ys.map CmdV.cm)).length cap_f p_b cap_b p_l ys.length cap_l)) :: (g_f, b_f) :: (g_b, b_b) :: (g_l, b_l) :: (m1, .row 51 [.slice r f.length cr, .int .i64 a, .int .i64 b]) :: (B_y ++ B_u)) ∧ x ≤ ts.length) (fun x => ts.length - x) 0 (⟨(hm.pickT [0, 1, 2, 3, 4, 5] 6 rfl), Nat.zero_le _⟩) ⟨rfl, trivial⟩ (fun x w hM => ?_)
    obtain ⟨hm, hk⟩ := hM
    refine HW_seq rfl ?_
    refine HW_text (.pure 0 .done) (by kernel_rfl) ?_
    refine rw_p rfl rfl (y_lt rfl rfl) ?_
    refine rw_done ?_
    refine gn_sq ?_
    refine HW_seq rfl ?_
    refine HW_cond rfl rfl (fun hc2 => ?_) (fun hc2 => ?_)
    ·
      simp only [decide_eq_true_eq] at hc2
      obtain ⟨tt, hi⟩ : ∃ y_, ts[x]? = some y_ := ⟨_, List.getElem?_eq_getElem (by omega)⟩
      obtain ⟨b2, o2, rfl⟩ := (ha_u.rd hm 0 rfl).atI encT_len (by decide) hi
      have htx : (stT 0 (Pl.steps s 0 (ys.map CmdV.cm)))[x]? = some (tt.1, tt.2.1, tt.2.2.cm) := by rw [← htm, List.getElem?_map, hi]; rfl
      rw [stT_get] at htx
      obtain ⟨x9, hx9, e9⟩ := Option.map_eq_some_iff.1 htx
      have e8 : x9.2 = tt.2.2.cm := (Prod.mk.inj (Prod.mk.inj e9).2).2
      have hx8 : (Pl.steps s 0 (ys.map CmdV.cm))[x]? = some (x9.1, tt.2.2.cm) := by rw [← e8]; exact hx9
      have htk := hsc _ (List.mem_of_getElem? hx8)
      simp only at htk
      have hone := fun F => Pl.runP_one (f := F) hx8
      refine HW_skip rfl ?_
      refine gn_sq ?_
      refine HW_seq rfl ?_
      refine HW_block rfl ?_
      refine HW_seq rfl ?_
      refine HW_text (.pure 0 (.pure 1 (.pure 2 (.act 3 (.pure 4 (.act 5 .done)))))) (by kernel_rfl) ?_
      refine rw_p rfl rfl (y_move rfl) ?_
      refine rw_p rfl rfl (y_index rfl rfl sl29 rfl (by omega) (by omega)) ?_
      refine rw_p rfl rfl (y_elA rfl ag40 (ha_u.rd hm 0 rfl).nt encT_len hi) ?_
      refine a_alloc rfl rfl z40 hm trivial fun m2 w hg_m2 hm hh => ?_
      refine rw_p rfl rfl (y_assign rfl) ?_
      refine a_store rfl rfl rfl rfl sz40 rfl hm 0 rfl rfl fun w hm => ?_
      refine rw_done ?_
      refine gn_sq ?_
      refine HW_seq rfl ?_
      refine HW_seq rfl ?_
      refine HW_text (.pure 0 (.pure 1 (.act 2 .done))) (by kernel_rfl) ?_
      refine rw_p rfl rfl (y_fieldAddr rfl fo40_2) ?_
      refine rw_p rfl rfl (y_loadA (s := 5) (vs := [_, _, _, _, _]) rfl ag34 (hm.nt 0 rfl) rfl) ?_
      refine a_call rfl rfl rfl go26 (r4_overlaps tt.2.2.cm tt.2.2.d.p tt.2.2.d.cap _ htk) fun v w hR => ?_
      obtain ⟨rfl, hE⟩ := hR
      refine ⟨trivial, ?_⟩
      replace hm := hm.ext hE
      refine rw_done ?_
      refine gn_sq ?_
      refine HW_cond rfl rfl (fun hc3 => ?_) (fun hc3 => ?_)
      ·
        refine HW_exit rfl ?_
        refine gx_sq ?_
        refine gx_here ?_
        refine gn_sq ?_
        refine HW_text (.pure 0 (.pure 1 .done)) (by kernel_rfl) ?_
        refine rw_p rfl rfl (y_add rfl rfl (i64w (by omega) (by omega))) ?_
        refine rw_p rfl rfl (y_move rfl) ?_
        refine rw_done ?_
        refine next (x + 1) (by omega) ⟨(hm.pickT [1, 2, 3, 4, 5, 6] 7 rfl), by omega⟩ ⟨nx x, rfl, rfl, rfl, rfl, rfl, rfl, trivial⟩
      ·
        refine HW_skip rfl ?_
        refine gn_sq ?_
        refine HW_seq rfl ?_
        refine HW_text (.pure 0 (.pure 1 (.pure 2 (.pure 3 (.pure 4 (.pure 5 (.act 6 (.pure 7 (.pure 8 (.pure 9 (.pure 10 (.pure 11 .done)))))))))))) (by kernel_rfl) ?_
        refine rw_p rfl rfl (y_move rfl) ?_
        refine rw_p rfl rfl (y_fieldAddr rfl fo51_0) ?_
        refine rw_p rfl rfl (y_load rfl sc32 (hm.nt 6 rfl) rfl) ?_
        refine rw_p rfl rfl (y_move rfl) ?_
        refine rw_p rfl rfl (y_move rfl) ?_
        refine rw_p rfl rfl (y_add rfl rfl (i64w (by omega) (by omega))) ?_
        refine a_call rfl rfl rfl go24 (p_run ((x : Int)) (((x : Int) + 1)) r cr f m_p s p_f cap_f p_b cap_b p_l cap_l ys _ (hm.get (k := 2) rfl) (ha_f.rd hm 3 rfl) (ha_b.rd hm 4 rfl) (ha_l.rd hm 5 rfl) hfw9 hmx9 (fun y hy => ⟨(hH y hy).okN hm (by intro e he; simp [he, setB]), hdl y hy⟩) ⟨hs, hs1⟩ (hfb.rd.ext0 hm.to) ⟨hfb.le, by omega⟩ hfb.spot (by simp only [Pl.I64]; omega) (by rw [← hst9y]; exact hbd)) fun v w hR => ?_
        obtain ⟨n_e, cap_e, g_e, b_e, p_e, rfl, ha_e, hn_e, hmc⟩ := hR
        subst hn_e
        refine ⟨trivial, ?_⟩
        replace hm := hm.callN hmc
        have hle_e := Pl.runP_le (f := f) (st := (Pl.steps s 0 (ys.map CmdV.cm))) (a := (x : Int)) (b := ((x : Int) + 1)) hsc
        refine rw_p rfl rfl (y_move rfl) ?_
        refine rw_p rfl rfl (y_extract rfl rfl) ?_
        refine rw_p rfl rfl (y_extract rfl rfl) ?_
        refine rw_p rfl rfl (y_assign rfl) ?_
        refine rw_p rfl rfl (y_assign rfl) ?_
        refine rw_done ?_
        refine gn_sq ?_
        refine HW_seq rfl ?_
        refine HW_seq rfl ?_
        refine HW_text (.pure 0 (.pure 1 .done)) (by kernel_rfl) ?_
        refine rw_p rfl rfl (y_move rfl) ?_
        refine rw_p rfl rfl (y_not rfl) ?_
        refine rw_done ?_
        refine gn_sq ?_
        refine HW_cond rfl rfl (fun hc4 => ?_) (fun hc4 => ?_)
        ·
          refine HW_exit rfl ?_
          refine gx_sq ?_
          refine gx_here ?_
          refine gn_sq ?_
          refine HW_text (.pure 0 (.pure 1 .done)) (by kernel_rfl) ?_
          refine rw_p rfl rfl (y_add rfl rfl (i64w (by omega) (by omega))) ?_
          refine rw_p rfl rfl (y_move rfl) ?_
          refine rw_done ?_
          refine next (x + 1) (by omega) ⟨(hm.pickT [2, 3, 4, 5, 6, 7] 8 rfl), by omega⟩ ⟨nx x, rfl, rfl, rfl, rfl, rfl, rfl, trivial⟩
        ·
          obtain ⟨G, hG⟩ := Option.isSome_iff_exists.1 (by simpa using hc4 : (Pl.runP f (Pl.steps s 0 (ys.map CmdV.cm)) (x : Int) ((x : Int) + 1)).isSome = true)
          have hrg : ((Pl.runP f (Pl.steps s 0 (ys.map CmdV.cm)) (x : Int) ((x : Int) + 1)).getD []) = G := by rw [hG]; rfl
          have hz9 : Pl.runP ((Pl.runP f (Pl.steps s 0 (ys.map CmdV.cm)) (x : Int) ((x : Int) + 1)).getD []) (Pl.steps s 0 (ys.map CmdV.cm)) (x : Int) ((x : Int) + 1) = some G := by rw [hrg, hone]; exact Pl.ex1_twice htk hc3 (by rw [← hone]; exact hG)
          refine HW_skip rfl ?_
          refine gn_sq ?_
          refine HW_seq rfl ?_
          refine HW_text (.pure 0 (.pure 1 (.pure 2 (.pure 3 (.pure 4 (.act 5 (.pure 6 (.pure 7 (.pure 8 (.pure 9 (.pure 10 .done))))))))))) (by kernel_rfl) ?_
          refine rw_p rfl rfl (y_move rfl) ?_
          refine rw_p rfl rfl (y_move rfl) ?_
          refine rw_p rfl rfl (y_move rfl) ?_
          refine rw_p rfl rfl (y_move rfl) ?_
          refine rw_p rfl rfl (y_add rfl rfl (i64w (by omega) (by omega))) ?_
          refine a_call rfl rfl rfl go24 (p_run ((x : Int)) (((x : Int) + 1)) p_e cap_e ((Pl.runP f (Pl.steps s 0 (ys.map CmdV.cm)) (x : Int) ((x : Int) + 1)).getD []) m_p s p_f cap_f p_b cap_b p_l cap_l ys _ (hm.get (k := 3) rfl) (ha_f.rd hm 4 rfl) (ha_b.rd hm 5 rfl) (ha_l.rd hm 6 rfl) hfw9 hmx9 (fun y hy => ⟨(hH y hy).okN hm (by intro e he; simp [he, setB]), hdl y hy⟩) ⟨hs, hs1⟩ (ha_e.rd hm 0 rfl) ⟨ha_e.le, by omega⟩ (fun h => ha_e.spot h) (by simp only [Pl.I64]; omega) (by rw [← hst9y]; exact hbd)) fun v w hR => ?_
          obtain ⟨n_z, cap_z, g_z, b_z, p_z, rfl, ha_z, hn_z, hmc⟩ := hR
          subst hn_z
          refine ⟨trivial, ?_⟩
          replace hm := hm.callN hmc
          refine rw_p rfl rfl (y_move rfl) ?_
          refine rw_p rfl rfl (y_extract rfl rfl) ?_
          refine rw_p rfl rfl (y_extract rfl rfl) ?_
          refine rw_p rfl rfl (y_assign rfl) ?_
          refine rw_p rfl rfl (y_assign rfl) ?_
          refine rw_done ?_
          refine gn_sq ?_
          refine HW_seq rfl ?_
          refine HW_text (.pure 0 (.pure 1 (.pure 2 (.pure 3 (.pure 4 (.act 5 (.pure 6 (.pure 7 .done)))))))) (by kernel_rfl) ?_
          refine rw_p rfl rfl (y_as (c := true) (y_move rfl) (by rw [hz9]; rfl)) ?_
          refine rw_p rfl rfl (y_not rfl) ?_
          refine rw_p rfl rfl (y_move rfl) ?_
          refine rw_p rfl rfl (y_move rfl) ?_
          refine rw_p rfl rfl (y_move rfl) ?_
          refine a_call rfl rfl rfl go22 (C.as (v := .bool true) (eq_b p_e p_z cap_e cap_z ((Pl.runP f (Pl.steps s 0 (ys.map CmdV.cm)) (x : Int) ((x : Int) + 1)).getD []) ((Pl.runP ((Pl.runP f (Pl.steps s 0 (ys.map CmdV.cm)) (x : Int) ((x : Int) + 1)).getD []) (Pl.steps s 0 (ys.map CmdV.cm)) (x : Int) ((x : Int) + 1)).getD []) _ (ha_e.rd hm 1 rfl) (ha_z.rd hm 0 rfl) (by omega) (by rw [hz9]; simp only [Option.getD_some]; rw [← hrg]; omega)) (congrArg Value.bool (by rw [hz9, hrg]; simp))) fun v w hR => ?_
          obtain ⟨rfl, hE⟩ := hR
          refine ⟨trivial, ?_⟩
          replace hm := hm.ext hE
          refine rw_p rfl rfl (y_not rfl) ?_
          refine rw_p rfl rfl (y_pickF rfl rfl) ?_
          refine rw_done ?_
          refine gn_sq ?_
          refine HW_condF rfl rfl rfl ?_
          refine HW_skip rfl ?_
          refine gn_bl ?_
          refine gn_sq ?_
          refine HW_text (.pure 0 (.pure 1 .done)) (by kernel_rfl) ?_
          refine rw_p rfl rfl (y_add rfl rfl (i64w (by omega) (by omega))) ?_
          refine rw_p rfl rfl (y_move rfl) ?_
          refine rw_done ?_
          refine next (x + 1) (by omega) ⟨(hm.pickT [3, 4, 5, 6, 7, 8] 9 rfl), by omega⟩ ⟨nx x, rfl, rfl, rfl, rfl, rfl, rfl, trivial⟩
    ·
      simp only [decide_eq_false_iff_not] at hc2
      refine HW_exit rfl ?_
      refine gx_sq (gx_lp ?_)
      refine gx_here ?_
      refine gn_sq ?_
      refine HW_seq rfl ?_
      refine HW_text (.pure 0 .done) (by kernel_rfl) ?_
      refine rw_p rfl rfl (y_assign rfl) ?_
      refine rw_done ?_
      refine gn_sq ?_
      refine HW_seq rfl ?_
      refine HW_text (.pure 0 (.act 1 (.pure 2 (.pure 3 (.pure 4 (.act 5 (.act 6 (.pure 7 .done)))))))) (by kernel_rfl) ?_
      refine rw_p rfl rfl (y_move rfl) ?_
      refine a_call rfl rfl rfl go15 (p_atN 0 _) fun v w hR => ?_
      obtain ⟨rfl, hE⟩ := hR
      refine ⟨trivial, ?_⟩
      replace hm := hm.ext hE
      refine rw_p rfl rfl (y_move rfl) ?_
      refine rw_p rfl rfl (y_extract rfl rfl) ?_
      refine rw_p rfl rfl (y_extract rfl rfl) ?_
      refine a_alloc rfl rfl z36 hm trivial fun m2 w hg_m2 hm hh => ?_
      refine a_store rfl rfl rfl rfl sz36 rfl hm 0 rfl rfl fun w hm => ?_
      refine rw_p rfl rfl (y_assign rfl) ?_
      refine rw_done ?_
      refine gn_sq ?_
      refine HW_seq rfl ?_
      refine HW_text (.pure 0 (.pure 1 (.pure 2 (.act 3 (.pure 4 (.pure 5 (.pure 6 (.pure 7 (.pure 8 .done))))))))) (by kernel_rfl) ?_
      refine rw_p rfl rfl (y_move rfl) ?_
      refine rw_p rfl rfl (y_fieldAddr rfl fo51_0) ?_
      refine rw_p rfl rfl (y_load rfl sc32 (hm.nt 6 rfl) rfl) ?_
      refine a_call rfl rfl rfl go24 (p_runN 0 0 _ _ _ _) fun v w hR => ?_
      obtain ⟨rfl, hE⟩ := hR
      refine ⟨trivial, ?_⟩
      replace hm := hm.ext hE
      refine rw_p rfl rfl (y_move rfl) ?_
      refine rw_p rfl rfl (y_extract rfl rfl) ?_
      refine rw_p rfl rfl (y_extract rfl rfl) ?_
      refine rw_p rfl rfl (y_assign rfl) ?_
      refine rw_p rfl rfl (y_assign rfl) ?_
      refine rw_done ?_
      refine gn_sq ?_
      refine HW_seq rfl ?_
      refine HW_text (.act 0 (.pure 1 (.pure 2 (.act 3 (.pure 4 (.pure 5 (.pure 6 (.pure 7 (.pure 8 (.pure 9 (.pure 10 (.pure 11 (.act 12 (.pure 13 (.pure 14 (.pure 15 (.pure 16 (.act 17 (.pure 18 (.pure 19 (.pure 20 (.pure 21 (.pure 22 (.pure 23 (.pure 24 (.pure 25 (.pure 26 (.pure 27 (.pure 28 (.pure 29 (.pure 30 (.act 31 (.pure 32 (.pure 33 (.pure 34 (.pure 35 (.pure 36 (.pure 37 (.pure 38 (.act 39 (.pure 40 (.pure 41 (.pure 42 .done))))))))))))))))))))))))))))))))))))))))))) (by kernel_rfl) ?_
      refine a_call rfl rfl rfl go10 (law_alive _) fun v w hR => ?_
      obtain ⟨rfl, hE⟩ := hR
      refine ⟨trivial, ?_⟩
      replace hm := hm.ext hE
      refine rw_p rfl rfl (y_move rfl) ?_
      refine rw_p rfl rfl (y_move rfl) ?_
      refine a_call rfl rfl rfl go14 (p_lenN _) fun v w hR => ?_
      obtain ⟨rfl, hE⟩ := hR
      refine ⟨trivial, ?_⟩
      replace hm := hm.ext hE
      refine rw_p rfl rfl (y_as (c := true) (y_eq rfl rfl) (by decide +kernel)) ?_
      refine rw_p rfl rfl (y_pickT rfl rfl) ?_
      refine rw_p rfl rfl (y_move rfl) ?_
      refine rw_p rfl rfl (y_move rfl) ?_
      refine rw_p rfl rfl (y_not rfl) ?_
      refine rw_p rfl rfl (y_pickT rfl rfl) ?_
      refine rw_p rfl rfl (y_move rfl) ?_
      refine rw_p rfl rfl (y_move rfl) ?_
      refine a_call rfl rfl rfl go17 (p_firstN 0 _) fun v w hR => ?_
      obtain ⟨rfl, hE⟩ := hR
      refine ⟨trivial, ?_⟩
      replace hm := hm.ext hE
      refine rw_p rfl rfl (y_as (c := true) (y_eq rfl rfl) (by decide +kernel)) ?_
      refine rw_p rfl rfl (y_pickT rfl rfl) ?_
      refine rw_p rfl rfl (y_move rfl) ?_
      refine rw_p rfl rfl (y_move rfl) ?_
      refine a_call rfl rfl rfl go19 (p_writtenN 1 _) fun v w hR => ?_
      obtain ⟨rfl, hE⟩ := hR
      refine ⟨trivial, ?_⟩
      replace hm := hm.ext hE
      refine rw_p rfl rfl (y_as (c := true) (y_eq rfl rfl) (by decide +kernel)) ?_
      refine rw_p rfl rfl (y_pickT rfl rfl) ?_
      refine rw_p rfl rfl (y_move rfl) ?_
      refine rw_p rfl rfl (y_move rfl) ?_
      refine rw_p rfl rfl (y_len rfl rfl sl32) ?_
      refine rw_p rfl rfl (y_as (c := true) (y_eq rfl rfl) (by decide +kernel)) ?_
      refine rw_p rfl rfl (y_pickT rfl rfl) ?_
      refine rw_p rfl rfl (y_move rfl) ?_
      refine rw_p rfl rfl (y_move rfl) ?_
      refine rw_p rfl rfl (y_not rfl) ?_
      refine rw_p rfl rfl (y_pickT rfl rfl) ?_
      refine rw_p rfl rfl (y_move rfl) ?_
      refine rw_p rfl rfl (y_move rfl) ?_
      refine a_call rfl rfl rfl go11 (p_new0 0 _ _ _ _ (by decide)) fun v w hR => ?_
      obtain ⟨rfl, hE⟩ := hR
      refine ⟨trivial, ?_⟩
      replace hm := hm.ext hE
      refine rw_p rfl rfl (y_pnil rfl rfl pb25) ?_
      refine rw_p rfl rfl (y_pickT rfl rfl) ?_
      refine rw_p rfl rfl (y_move rfl) ?_
      refine rw_p rfl rfl (y_move rfl) ?_
      refine rw_p rfl rfl (y_max rfl rfl) ?_
      refine rw_p rfl rfl (y_sub rfl rfl (i64w (by omega) (by omega))) ?_
      refine rw_p rfl rfl (y_move rfl) ?_
      refine a_call rfl rfl rfl go11 (p_new0 _ _ _ _ _ (by omega)) fun v w hR => ?_
      obtain ⟨rfl, hE⟩ := hR
      refine ⟨trivial, ?_⟩
      replace hm := hm.ext hE
      refine rw_p rfl rfl (y_pnil rfl rfl pb25) ?_
      refine rw_p rfl rfl (y_pickT rfl rfl) ?_
      refine rw_p rfl rfl (y_assign rfl) ?_
      refine rw_done ?_
      refine gn_sq ?_
      refine HW_ret rfl ?_
      refine toR (fin hret rfl (.tmp rfl .nil) .one ?_)
      exact ⟨rfl, hm.to⟩

end Go.Proofs.Ytpandemmaoeioaa
