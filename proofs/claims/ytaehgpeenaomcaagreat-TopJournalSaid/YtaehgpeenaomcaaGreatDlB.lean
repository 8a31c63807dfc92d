/- Contracts of functions of the program: what each returns. Conditions: the hypotheses of each theorem. -/
import Derived.Test.YtaehgpeenaomcaaGreatDl
set_option linter.unusedVariables false
set_option linter.unusedSimpArgs false
namespace Go.Proofs.YtaehgpeenaomcaaGreat
open Go Go.Cx

theorem ag26 : aggS Tryz.prog 26 = some 67 := by kernel_rfl
theorem go19 : isGo Tryz.prog 19 = true := by kernel_rfl

set_option maxHeartbeats 800000 in
theorem r5_gap (oo nn : Int) (H : Nat → UInt8) (q : Option Addr) (cq : Nat) (cs : List CmdV) (w0 : World) (hq : Rd w0 q (cs.flatMap encC)) (hdl : cs.length ≤ 4611686018427387903) (hn : 0 ≤ nn) (hk : ∀ c ∈ cs, okC w0 c) (hsg : ∀ c ∈ cs, Pl.single oo nn c.cm = 0) : C Tryz.prog 86 [.agg ⟨dlV oo nn H q cs.length cq⟩] w0 fun v w' => (∃ x, v = .int .i64 x ∧ (x < 0 → ∀ (j : Nat), j < cs.length + 1 → Pl.eoff (cs.map CmdV.cm) j < nn → 0 ≤ Pl.fnd (cs.map CmdV.cm) (Pl.eoff (cs.map CmdV.cm) j)) ∧ (0 ≤ x → ∃ y : Int, 0 ≤ y ∧ y < nn ∧ ¬ 0 ≤ Pl.fnd (cs.map CmdV.cm) y)) ∧ Ext No w0 w' := by
  have hr : ∀ c ∈ cs, Pl.I64 (c.cm.to + Pl.clen c.cm) := fun c hc => by
    have := Pl.ccheck_ok (Pl.single_ok (hsg c hc)).1
    simp only [Pl.I64]; omega
  refine C_of Tryz.func86 rfl rfl rfl fun κ hret hnorm => ?_
  have hm := Mem.start w0
  refine HW_seq rfl ?_
  refine HW_text (.act 0 (.pure 1 .done)) (by kernel_rfl) ?_
  refine a_box rfl rfl rfl rfl hm trivial fun m1 w hg_m1 hm hh => ?_
  refine rw_p rfl rfl (y_assign rfl) ?_
  refine rw_done ?_
  refine gn_sq ?_
  refine HW_seq rfl ?_
  refine HW_text (.pure 0 .done) (by kernel_rfl) ?_
  refine rw_p rfl rfl (y_assign rfl) ?_
  refine rw_done ?_
  refine gn_sq ?_
  refine HW_seq rfl ?_
  refine HW_seq rfl ?_
  refine HW_text (.pure 0 .done) (by kernel_rfl) ?_
  refine rw_p rfl rfl (y_assign rfl) ?_
  refine rw_done ?_
  refine gn_sq ?_
  refine HW_block rfl ?_
  refine HW_loopK (ι := Nat × Int) rfl (ks := [1, 2]) (.cons rfl (.cons rfl .nil)) (fun x => [(4, .int .i64 ((x.1 : Int) - 1)), (3, .int .i64 x.2)]) (fun x w => Mem w0 w No [(m1, .row 26 (dlV oo nn H q cs.length cq))] ∧ x.1 ≤ cs.length + 1 ∧ (x.2 < 0 → ∀ (j : Nat), j < x.1 → Pl.eoff (cs.map CmdV.cm) j < nn → 0 ≤ Pl.fnd (cs.map CmdV.cm) (Pl.eoff (cs.map CmdV.cm) j)) ∧ (0 ≤ x.2 → ∃ y : Int, 0 ≤ y ∧ y < nn ∧ ¬ 0 ≤ Pl.fnd (cs.map CmdV.cm) y)) (fun x => cs.length + 1 - x.1) (0, -1) (⟨(hm.pick [0] rfl), Nat.zero_le _, fun _ _ h => absurd h (Nat.not_lt_zero _), fun h => absurd h (by decide)⟩) ⟨rfl, rfl, trivial⟩ (fun x w hM => ?_)
  obtain ⟨hm, hk0, hno, hyes⟩ := hM
  refine HW_seq rfl ?_
  refine HW_seq rfl ?_
  refine HW_text (.pure 0 (.pure 1 (.pure 2 (.pure 3 (.pure 4 .done))))) (by kernel_rfl) ?_
  refine rw_p rfl rfl (y_move rfl) ?_
  refine rw_p rfl rfl (y_fieldAddr rfl fo26_4) ?_
  refine rw_p rfl rfl (y_load rfl sc24 (hm.nt 0 rfl) rfl) ?_
  refine rw_p rfl rfl (y_len rfl rfl sl24) ?_
  refine rw_p rfl rfl (y_lt rfl rfl) ?_
  refine rw_done ?_
  refine gn_sq ?_
  refine HW_cond rfl rfl (fun hc0 => ?_) (fun hc0 => ?_)
  ·
    simp only [decide_eq_true_eq] at hc0
    refine HW_skip rfl ?_
    refine gn_sq ?_
    refine HW_via (ι := Int) rfl (ks := [1, 2, 4]) (.cons rfl (.cons rfl (.cons rfl .nil))) (fun z => [(3, .int .i64 z)]) (fun z w => Mem w0 w No [(m1, .row 26 (dlV oo nn H q cs.length cq))] ∧ (z < 0 → ∀ (j : Nat), j < x.1 + 1 → Pl.eoff (cs.map CmdV.cm) j < nn → 0 ≤ Pl.fnd (cs.map CmdV.cm) (Pl.eoff (cs.map CmdV.cm) j)) ∧ (0 ≤ z → ∃ y : Int, 0 ≤ y ∧ y < nn ∧ ¬ 0 ≤ Pl.fnd (cs.map CmdV.cm) y)) ?_ (fun z w hM => ?_)
    ·
      refine HW_block rfl ?_
      refine HW_seq rfl ?_
      refine HW_text (.pure 0 .done) (by kernel_rfl) ?_
      refine rw_p rfl rfl (y_assign rfl) ?_
      refine rw_done ?_
      refine gn_sq ?_
      refine HW_via (ι := Int) rfl (ks := [1, 2, 3, 4]) (.cons rfl (.cons rfl (.cons rfl (.cons rfl .nil)))) (fun off => [(5, .int .i64 off)]) (fun off w => Mem w0 w No [(m1, .row 26 (dlV oo nn H q cs.length cq))] ∧ off = Pl.eoff (cs.map CmdV.cm) x.1 ∧ 0 ≤ off) ?_ (fun off w hM => ?_)
      ·
        refine HW_seq rfl ?_
        refine HW_text (.pure 0 (.pure 1 .done)) (by kernel_rfl) ?_
        refine rw_p rfl rfl (y_move rfl) ?_
        refine rw_p rfl rfl (y_ge rfl rfl) ?_
        refine rw_done ?_
        refine gn_sq ?_
        refine HW_cond rfl rfl (fun hc1 => ?_) (fun hc1 => ?_)
        ·
          simp only [decide_eq_true_eq] at hc1
          obtain ⟨c, hi⟩ : ∃ y_, cs[((x.1 : Int) - 1).toNat]? = some y_ := ⟨_, List.getElem?_eq_getElem (by omega)⟩
          obtain ⟨qb, qo, rfl⟩ := hq.atI encC_len (by decide) hi
          have hcc := Pl.ccheck_ok (Pl.single_ok (hsg c (List.mem_of_getElem? hi))).1
          have k2 : c.cm.to = c.to := rfl
          rw [k2] at hcc
          have hoff : Pl.eoff (cs.map CmdV.cm) x.1 = c.to + Pl.clen c.cm := by
            obtain ⟨j, hj⟩ : ∃ j : Nat, x.1 = j + 1 := ⟨x.1 - 1, by omega⟩
            have e : ((x.1 : Int) - 1).toNat = j := by omega
            rw [e] at hi
            rw [hj, Pl.eoff_succ (cmsGet hi)]; rfl
          refine HW_draw (.pure 0 (.pure 1 (.pure 2 (.pure 3 (.pure 4 (.pure 5 (.pure 6 (.pure 7 (.pure 8 (.pure 9 (.pure 10 (.act 11 (.pure 12 (.pure 13 .done)))))))))))))) No mix (by kernel_rfl) hm fun w hw hm0 hh => ?_
          have hm := hm0
          refine rw_p rfl rfl (y_fieldAddr rfl fo26_4) ?_
          refine rw_p rfl rfl (y_load rfl sc24 (hm0.nd 0 rfl id) rfl) ?_
          refine rw_p rfl rfl (y_move rfl) ?_
          refine rw_p rfl rfl (y_index rfl rfl sl24 rfl (by omega) (by omega)) ?_
          refine rw_p rfl rfl (y_fieldAddr rfl fo60_1) ?_
          refine rw_p rfl rfl (y_elS rfl sc3 (hq.ext0 hm0.to).nd encC_len hi rfl) ?_
          refine rw_p rfl rfl (y_fieldAddr rfl fo26_4) ?_
          refine rw_p rfl rfl (y_load rfl sc24 (hm0.nd 0 rfl id) rfl) ?_
          refine rw_p rfl rfl (y_move rfl) ?_
          refine rw_p rfl rfl (y_index rfl rfl sl24 rfl (by omega) (by omega)) ?_
          refine rw_p rfl rfl (y_elA rfl ag60 (hq.ext0 hm0.to).nd encC_len hi) ?_
          refine a_call rfl rfl rfl go87 (r4_len c.cm c.d.p c.d.cap _) fun v w hR => ?_
          obtain ⟨rfl, hE⟩ := hR
          refine ⟨hh.ext hE, ?_⟩
          replace hm := hm.ext hE
          replace hh := hh.ext hE
          refine rw_p rfl rfl (y_add rfl rfl (i64w (by omega) (by omega))) ?_
          refine rw_p rfl rfl (y_assign rfl) ?_
          refine rw_done ?_
          exact gn_vi _ ⟨(hm.pick [0] rfl), hoff.symm, by omega⟩ ⟨rfl, rfl, rfl, rfl, rfl, trivial⟩
        ·
          simp only [decide_eq_false_iff_not] at hc1
          have hoff : Pl.eoff (cs.map CmdV.cm) x.1 = 0 := by
            have e : x.1 = 0 := by omega
            rw [e]; rfl
          refine HW_skip rfl ?_
          exact gn_vi _ ⟨(hm.pick [0] rfl), hoff.symm, by omega⟩ ⟨rfl, rfl, rfl, rfl, rfl, trivial⟩
      ·
        obtain ⟨hm, hoff, hof0⟩ := hM
        refine HW_seq rfl ?_
        refine HW_text (.pure 0 (.pure 1 (.pure 2 (.pure 3 (.pure 4 (.pure 5 (.pure 6 (.act 7 (.pure 8 (.pure 9 (.pure 10 (.pure 11 (.pure 12 (.pure 13 (.pure 14 (.pure 15 (.pure 16 (.pure 17 (.pure 18 .done))))))))))))))))))) (by kernel_rfl) ?_
        refine rw_p rfl rfl (y_move rfl) ?_
        refine rw_p rfl rfl (y_fieldAddr rfl fo26_1) ?_
        refine rw_p rfl rfl (y_load rfl sc3 (hm.nt 0 rfl) rfl) ?_
        refine rw_p rfl rfl (y_lt rfl rfl) ?_
        refine rw_p rfl rfl (y_move rfl) ?_
        refine rw_g rfl rfl rfl (fun hc => (y_loadA (s := 67) (vs := dlV oo nn H _ cs.length cq) rfl ag26 (hm.nt 0 rfl) rfl)) ?_
        refine rw_g rfl rfl rfl (fun hc => (y_move rfl)) ?_
        refine a_callG rfl rfl rfl (fun hc => (evs_c (gx hc rfl) (evs_c (gx hc rfl) evs_n))) go19 (fun hc => (r5_find oo nn H _ cq cs _ _ (hq.ext0 hm.to) hdl hr)) trivial fun w hE hh => ?_
        replace hm := hm.ext hE
        refine rw_g rfl rfl rfl (fun hc => (y_lt (gx hc rfl) rfl)) ?_
        refine rw_p rfl rfl (y_and rfl rfl rfl) ?_
        refine rw_p rfl rfl (y_move rfl) ?_
        refine rw_g rfl rfl rfl (fun hc => (y_move rfl)) ?_
        refine rw_g rfl rfl rfl (fun hc => (y_lt (gx hc rfl) rfl)) ?_
        refine rw_g rfl rfl rfl (fun hc => (y_move (gx hc rfl))) ?_
        refine rw_gg rfl rfl rfl (fun hc => (y_move rfl)) ?_
        refine rw_gg rfl rfl rfl (fun hc => (y_move rfl)) ?_
        refine rw_gg rfl rfl rfl (fun hc => (y_lt (gx hc rfl) (gx hc rfl))) ?_
        refine rw_g rfl rfl rfl (fun hc => (y_or (gx hc rfl) rfl (gvn hc rfl))) ?_
        refine rw_p rfl rfl (y_and rfl rfl rfl) ?_
        refine rw_done ?_
        refine gn_sq ?_
        refine HW_cond rfl rfl (fun hc2 => ?_) (fun hc2 => ?_)
        ·
          simp only [Bool.and_eq_true, Bool.or_eq_true, Bool.and_eq_false_iff, Bool.or_eq_false_iff, Bool.not_eq_true', Bool.not_eq_false', decide_eq_true_eq, decide_eq_false_iff_not] at hc2
          refine HW_text (.pure 0 (.pure 1 .done)) (by kernel_rfl) ?_
          refine rw_p rfl rfl (y_move rfl) ?_
          refine rw_p rfl rfl (y_assign rfl) ?_
          refine rw_done ?_
          refine gn_bl ?_
          exact gn_vi off ⟨(hm.pick [0] rfl), fun h => absurd h (by omega), fun _ => ⟨off, by omega, by omega, by omega⟩⟩ ⟨rfl, rfl, rfl, rfl, trivial⟩
        ·
          simp only [Bool.and_eq_true, Bool.or_eq_true, Bool.and_eq_false_iff, Bool.or_eq_false_iff, Bool.not_eq_true', Bool.not_eq_false', decide_eq_true_eq, decide_eq_false_iff_not] at hc2
          refine HW_skip rfl ?_
          refine gn_bl ?_
          refine gn_vi x.2 ⟨(hm.pick [0] rfl), fun h j hj hjn => ?_, hyes⟩ ⟨rfl, rfl, rfl, rfl, trivial⟩
          rcases Nat.lt_or_ge j x.1 with h1 | h1
          · exact hno h j h1 hjn
          · obtain rfl : j = x.1 := by omega
            rw [← hoff] at hjn ⊢; omega
    ·
      obtain ⟨hm, hno2, hyes2⟩ := hM
      refine HW_text (.pure 0 (.pure 1 (.pure 2 .done))) (by kernel_rfl) ?_
      refine rw_p rfl rfl (y_move rfl) ?_
      refine rw_p rfl rfl (y_add rfl rfl (i64w (by omega) (by omega))) ?_
      refine rw_p rfl rfl (y_assign rfl) ?_
      refine rw_done ?_
      refine next (x.1 + 1, z) (by simp only; omega) ⟨(hm.pick [0] rfl), by simp only; omega, hno2, hyes2⟩ ⟨congrArg (fun x => some (Value.int .i64 x)) (by simp only; omega), rfl, rfl, rfl, trivial⟩
  ·
    simp only [decide_eq_false_iff_not] at hc0
    have hke : x.1 = cs.length + 1 := by omega
    rw [hke] at hno
    refine HW_exit rfl ?_
    refine gx_sq (gx_lp ?_)
    refine gx_here ?_
    refine gn_sq ?_
    refine HW_seq rfl ?_
    refine HW_text (.pure 0 (.pure 1 .done)) (by kernel_rfl) ?_
    refine rw_p rfl rfl (y_move rfl) ?_
    refine rw_p rfl rfl (y_assign rfl) ?_
    refine rw_done ?_
    refine gn_sq ?_
    refine HW_ret rfl ?_
    refine toR (fin hret rfl (.tmp rfl .nil) .one ?_)
    exact ⟨⟨_, rfl, hno, hyes⟩, hm.to⟩

end Go.Proofs.YtaehgpeenaomcaaGreat
