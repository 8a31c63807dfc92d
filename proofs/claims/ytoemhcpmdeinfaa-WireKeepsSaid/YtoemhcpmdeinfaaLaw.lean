/- Contracts of functions of the program: what each returns. Conditions: the hypotheses of each theorem. -/
import Derived.Test.YtoemhcpmdeinfaaWireC
set_option linter.unusedVariables false
set_option linter.unusedSimpArgs false
namespace Go.Proofs.Ytoemhcpmdeinfaa
open Go Go.Cx

theorem ft36 : fldT Try.prog 36 = some [(0, 1), (1, 1)] := by kernel_rfl
theorem go10 : isGo Try.prog 10 = true := by kernel_rfl
theorem go11 : isGo Try.prog 11 = true := by kernel_rfl
theorem go13 : isGo Try.prog 13 = true := by kernel_rfl
theorem go15 : isGo Try.prog 15 = true := by kernel_rfl
theorem go9 : isGo Try.prog 9 = true := by kernel_rfl
theorem iii41 : int2 Try.prog 41 = true := by kernel_rfl
theorem ag54 : aggS Try.prog 54 = some 2 := by kernel_rfl
theorem fo54_0 : fldO Try.prog 54 0 = some 0 := by kernel_rfl
theorem fo54_1 : fldO Try.prog 54 1 = some 1 := by kernel_rfl
theorem go21 : isGo Try.prog 21 = true := by kernel_rfl
theorem go22 : isGo Try.prog 22 = true := by kernel_rfl
theorem sl23 : slcO Try.prog 23 = some (54, 2, 16) := by kernel_rfl
theorem sz54 : szO Try.prog 54 = some 2 := by kernel_rfl
theorem z54 : zer Try.prog 54 = some [.int .u64 0, .int .i64 0] := by kernel_rfl
theorem go7 : isGo Try.prog 7 = true := by kernel_rfl
theorem go8 : isGo Try.prog 8 = true := by kernel_rfl

theorem law_alive (w0 : World) : C Try.prog 7 [] w0 fun v w' => v = .bool true ∧ Ext No w0 w' := by
  refine C_of Try.func7 rfl rfl rfl fun k hret hnorm => ?_
  have hm := Mem.start w0
  refine HW_seq rfl ?_
  refine HW_text (.pure 0 .done) (by kernel_rfl) ?_
  refine rw_p rfl rfl (y_assign rfl) ?_
  refine rw_done ?_
  refine gn_sq ?_
  refine HW_seq rfl ?_
  refine HW_text (.act 0 (.pure 1 (.act 2 (.act 3 (.pure 4 (.pure 5 (.pure 6 (.pure 7 (.pure 8 .done))))))))) (by kernel_rfl) ?_
  refine a_buildSlice (l := [_]) rfl rfl sl22 z5 rfl rfl rfl rfl rfl rfl rfl hm trivial fun m1 w hg_m1 hm hh => ?_
  refine rw_p rfl rfl (y_build (cs := [_, _]) z36 ft36 rfl rfl rfl rfl rfl) ?_
  refine a_buildSlice (l := [_, _]) rfl rfl sl25 z36 rfl rfl rfl rfl rfl rfl rfl hm trivial fun m2 w hg_m2 hm hh => ?_
  refine a_call rfl rfl rfl go9 (w_append _ _ [9] _ _ [(258, 3)] _ (Rd.row0 (hm.get (k := 1) rfl)) (Rd.row0 (hm.get (k := 0) rfl)) (by decide) (by decide) (by simp [Pl.okF]; omega)) fun v w hR => ?_
  obtain ⟨p_s, n_s, cap_s, g_s, b_s, rfl, ha_s, hmc⟩ := hR
  refine ⟨trivial, ?_⟩
  replace hm := hm.callN hmc
  obtain rfl := ha_s.lenB
  refine rw_p rfl rfl (y_move rfl) ?_
  refine rw_p rfl rfl (y_extract rfl rfl) ?_
  refine rw_p rfl rfl (y_as (c := true) (y_extract rfl rfl) (by decide +kernel)) ?_
  refine rw_p rfl rfl (y_assign rfl) ?_
  refine rw_p rfl rfl (y_assign rfl) ?_
  refine rw_done ?_
  refine gn_sq ?_
  refine HW_seq rfl ?_
  refine HW_text (.pure 0 (.act 1 (.pure 2 .done))) (by kernel_rfl) ?_
  refine rw_p rfl rfl (y_move rfl) ?_
  refine a_call rfl rfl rfl go11 (w_new p_s cap_s (Pl.wout [9] [(258, 3)]) _ (ha_s.rd hm 0 rfl) (by decide +kernel)) fun v w hR => ?_
  obtain ⟨r, p_rb, cap_rb, g_rb, b_rb, rfl, ha_rb, hmc⟩ := hR
  refine ⟨trivial, ?_⟩
  replace hm := hm.callN hmc
  refine rw_p rfl rfl (y_assign rfl) ?_
  refine rw_done ?_
  refine gn_sq ?_
  refine HW_seq rfl ?_
  refine HW_text (.pure 0 (.act 1 (.act 2 (.pure 3 (.pure 4 (.pure 5 (.pure 6 (.pure 7 (.pure 8 (.pure 9 (.pure 10 (.pure 11 (.act 12 (.pure 13 (.pure 14 (.pure 15 (.pure 16 (.act 17 (.pure 18 (.pure 19 (.pure 20 (.pure 21 (.act 22 (.pure 23 (.pure 24 (.pure 25 (.pure 26 (.act 27 (.pure 28 (.pure 29 (.pure 30 (.pure 31 .done)))))))))))))))))))))))))))))))) (by kernel_rfl) ?_
  refine rw_p rfl rfl (y_move rfl) ?_
  refine a_buildSlice (l := [_, _, _, _]) rfl rfl sl22 z5 rfl rfl rfl rfl rfl rfl rfl hm trivial fun m3 w hg_m3 hm hh => ?_
  refine a_call rfl rfl rfl go10 (C.as (v := .bool true) (eq_b p_s _ cap_s _ (Pl.wout [9] [(258, 3)]) [9, 0, 1, 2] _ (ha_s.rd hm 3 rfl) (Rd.row0 (hm.get (k := 0) rfl)) (by decide +kernel) (by decide)) (congrArg Value.bool (by decide +kernel))) fun v w hR => ?_
  obtain ⟨rfl, hE⟩ := hR
  refine ⟨trivial, ?_⟩
  replace hm := hm.ext hE
  refine rw_p rfl rfl (y_move rfl) ?_
  refine rw_p rfl rfl (y_move rfl) ?_
  refine rw_p rfl rfl (y_pickT rfl rfl) ?_
  refine rw_p rfl rfl (y_move rfl) ?_
  refine rw_p rfl rfl (y_move rfl) ?_
  refine rw_p rfl rfl (y_pnnil rfl rfl pb32) ?_
  refine rw_p rfl rfl (y_pickT rfl rfl) ?_
  refine rw_p rfl rfl (y_move rfl) ?_
  refine rw_p rfl rfl (y_move rfl) ?_
  refine a_call rfl rfl rfl go12 (w_uint r _ p_rb cap_rb (Pl.wout [9] [(258, 3)]) ⟨0, 0, 0⟩ 1 _ (hm.get (k := 1) rfl) (ha_rb.rd hm 2 rfl) (ha_rb.apart hm 2 1 rfl rfl rfl) ha_rb.le ha_rb.spot (by decide +kernel) (by decide +kernel) (by omega)) fun v w hR => ?_
  obtain ⟨rfl, hmc⟩ := hR
  refine ⟨trivial, ?_⟩
  replace hm := hm.callJ 1 rfl hmc
  refine rw_p rfl rfl (y_as (c := true) (y_eq rfl rfl) (by decide +kernel)) ?_
  refine rw_p rfl rfl (y_pickT rfl rfl) ?_
  refine rw_p rfl rfl (y_move rfl) ?_
  refine rw_p rfl rfl (y_move rfl) ?_
  refine a_call rfl rfl rfl go12 (w_uint r _ p_rb cap_rb (Pl.wout [9] [(258, 3)]) (Pl.ruint (Pl.wout [9] [(258, 3)]) ⟨0, 0, 0⟩ 1).1 3 _ (hm.get (k := 1) rfl) (ha_rb.rd hm 2 rfl) (ha_rb.apart hm 2 1 rfl rfl rfl) ha_rb.le ha_rb.spot (by decide +kernel) (by decide +kernel) (by omega)) fun v w hR => ?_
  obtain ⟨rfl, hmc⟩ := hR
  refine ⟨trivial, ?_⟩
  replace hm := hm.callJ 1 rfl hmc
  refine rw_p rfl rfl (y_as (c := true) (y_eq rfl rfl) (by decide +kernel)) ?_
  refine rw_p rfl rfl (y_pickT rfl rfl) ?_
  refine rw_p rfl rfl (y_move rfl) ?_
  refine rw_p rfl rfl (y_move rfl) ?_
  refine a_call rfl rfl rfl go13 (w_rest r _ p_rb (Pl.wout [9] [(258, 3)]).length cap_rb (Pl.ruint (Pl.wout [9] [(258, 3)]) (Pl.ruint (Pl.wout [9] [(258, 3)]) ⟨0, 0, 0⟩ 1).1 3).1 _ (hm.get (k := 1) rfl) (by decide +kernel) (by decide +kernel)) fun v w hR => ?_
  obtain ⟨rfl, hE⟩ := hR
  refine ⟨trivial, ?_⟩
  replace hm := hm.ext hE
  refine rw_p rfl rfl (y_as (c := true) (y_eq rfl rfl) (by decide +kernel)) ?_
  refine rw_p rfl rfl (y_pickT rfl rfl) ?_
  refine rw_p rfl rfl (y_move rfl) ?_
  refine rw_p rfl rfl (y_move rfl) ?_
  refine a_call rfl rfl rfl go15 (w_fault r _ p_rb _ cap_rb (Pl.ruint (Pl.wout [9] [(258, 3)]) (Pl.ruint (Pl.wout [9] [(258, 3)]) ⟨0, 0, 0⟩ 1).1 3).1 _ (hm.get (k := 1) rfl)) fun v w hR => ?_
  obtain ⟨rfl, hE⟩ := hR
  refine ⟨trivial, ?_⟩
  replace hm := hm.ext hE
  refine rw_p rfl rfl (y_build (cs := [_, _]) z41 ft41 rfl rfl rfl rfl rfl) ?_
  refine rw_p rfl rfl (y_as (c := true) (y_eq2 rfl rfl iii41) (by decide +kernel)) ?_
  refine rw_p rfl rfl (y_pickT rfl rfl) ?_
  refine rw_p rfl rfl (y_assign rfl) ?_
  refine rw_done ?_
  refine gn_sq ?_
  refine HW_ret rfl ?_
  refine toR (fin hret rfl (.tmp rfl .nil) .one ?_)
  exact ⟨rfl, hm.to⟩

set_option maxHeartbeats 400000 in
theorem law_fields (q : Option Addr) (cq : Nat) (fs : List (Int × Int)) (w0 : World) (hy : Rd w0 q (fs.flatMap encF)) (hok : ∀ f ∈ fs, Pl.okF f) (hl : fs.length ≤ 1048576) : C Try.prog 8 [.slice q fs.length cq] w0 fun v w' => ∃ p1 n1 c1 g1 b1 p2 n2 c2 g2 b2 bs, v = .tuple ⟨[.slice p1 n1 c1, .slice p2 n2 c2, .bool (Pl.fitA fs)]⟩ ∧ Acc 36 2 p1 n1 c1 (fs.flatMap encF) g1 b1 ∧ Acc 5 1 p2 n2 c2 (bs.flatMap encB) g2 b2 ∧ (Pl.fitA fs = true → bs = Pl.putB fs) ∧ Mem w0 w' No [(g2, b2), (g1, b1)] := by
  refine C_of Try.func8 rfl rfl rfl fun k hret hnorm => ?_
  have hm := Mem.start w0
  refine HW_seq rfl ?_
  refine HW_text (.pure 0 (.pure 1 (.pure 2 .done))) (by kernel_rfl) ?_
  refine rw_p rfl rfl (y_assign rfl) ?_
  refine rw_p rfl rfl (y_assign rfl) ?_
  refine rw_p rfl rfl (y_assign rfl) ?_
  refine rw_done ?_
  refine gn_sq ?_
  refine HW_seq rfl ?_
  refine HW_text (.pure 0 .done) (by kernel_rfl) ?_
  refine rw_p rfl rfl (y_assign rfl) ?_
  replace hm := hm.gapIn
  have ha_o := Acc.nil 36 2 none 0
  refine rw_done ?_
  refine gn_sq ?_
  refine HW_seq rfl ?_
  refine HW_text (.pure 0 .done) (by kernel_rfl) ?_
  refine rw_p rfl rfl (y_assign rfl) ?_
  replace hm := hm.gapIn
  have ha_q := Acc.nil 5 1 none 0
  refine rw_done ?_
  refine gn_sq ?_
  refine HW_seq rfl ?_
  refine HW_text (.pure 0 .done) (by kernel_rfl) ?_
  refine rw_p rfl rfl (y_assign rfl) ?_
  refine rw_done ?_
  refine gn_sq ?_
  refine HW_seq rfl ?_
  refine HW_seq rfl ?_
  refine HW_text (.pure 0 (.pure 1 (.pure 2 .done))) (by kernel_rfl) ?_
  refine rw_p rfl rfl (y_move rfl) ?_
  refine rw_p rfl rfl (y_len rfl rfl sl23) ?_
  refine rw_p rfl rfl (y_move rfl) ?_
  refine rw_done ?_
  refine gn_sq ?_
  refine HW_block rfl ?_
  refine HW_loopK (ι := Nat × Ow × Ow × List UInt8) rfl (ks := [2, 3, 4, 10, 11]) (.cons rfl (.cons rfl (.cons rfl (.cons rfl (.cons rfl .nil))))) (fun x => [(12, .int .i64 x.1), (5, .slice x.2.1.p x.2.1.n x.2.1.cap), (6, .slice x.2.2.1.p x.2.2.1.n x.2.2.1.cap), (7, .bool (Pl.fitA (fs.take x.1)))]) (fun x w => Mem w0 w No [(x.2.2.1.g, x.2.2.1.b), (x.2.1.g, x.2.1.b)] ∧ Acc 36 2 x.2.1.p x.2.1.n x.2.1.cap ((fs.take x.1).flatMap encF) x.2.1.g x.2.1.b ∧ Acc 5 1 x.2.2.1.p x.2.2.1.n x.2.2.1.cap ((x.2.2.2).flatMap encB) x.2.2.1.g x.2.2.1.b ∧ (Pl.fitA (fs.take x.1) = true → x.2.2.2 = Pl.putB (fs.take x.1)) ∧ x.1 ≤ fs.length ∧ x.2.1.n = x.1 ∧ x.2.2.1.n ≤ 8 * x.1) (fun x => fs.length - x.1) (0, ⟨none, 0, 0, 0, .gap⟩, ⟨none, 0, 0, 0, .gap⟩, []) (⟨hm, ha_o, ha_q, fun _ => rfl, Nat.zero_le _, rfl, Nat.le_refl _⟩) ⟨rfl, rfl, rfl, rfl, trivial⟩ (fun x w hM => ?_)
  obtain ⟨hm, ha_o, ha_q, hbs, hk, hn1, hn2⟩ := hM
  refine HW_seq rfl ?_
  refine HW_text (.pure 0 .done) (by kernel_rfl) ?_
  refine rw_p rfl rfl (y_lt rfl rfl) ?_
  refine rw_done ?_
  refine gn_sq ?_
  refine HW_seq rfl ?_
  refine HW_cond rfl rfl (fun hc0 => ?_) (fun hc0 => ?_)
  ·
    simp only [decide_eq_true_eq] at hc0
    obtain ⟨f, hi⟩ : ∃ y_, fs[x.1]? = some y_ := ⟨_, List.getElem?_eq_getElem (by omega)⟩
    obtain ⟨qb, qo, rfl⟩ := hy.atI encF_len (by decide) hi
    have hf := hok f (List.mem_of_getElem? hi)
    unfold Pl.okF at hf
    refine HW_skip rfl ?_
    refine gn_sq ?_
    refine HW_seq rfl ?_
    refine HW_block rfl ?_
    refine HW_seq rfl ?_
    refine HW_text (.pure 0 (.pure 1 (.act 2 (.act 3 .done)))) (by kernel_rfl) ?_
    refine rw_p rfl rfl (y_index rfl rfl sl23 rfl (by omega) (by omega)) ?_
    refine rw_p rfl rfl (y_elA rfl ag54 (hy.ext0 hm.to).nt encF_len hi) ?_
    refine a_alloc rfl rfl z54 hm trivial fun m1 w hg_m1 hm hh => ?_
    refine a_store rfl rfl rfl rfl sz54 rfl hm 0 rfl rfl fun w hm => ?_
    refine rw_done ?_
    refine gn_sq ?_
    refine HW_seq rfl ?_
    refine HW_text (.pure 0 (.pure 1 (.act 2 (.act 3 (.pure 4 .done))))) (by kernel_rfl) ?_
    refine rw_p rfl rfl (y_move rfl) ?_
    refine rw_p rfl rfl (y_loadA (s := 2) (vs := [_, _]) rfl ag54 (hm.nt 0 rfl) rfl) ?_
    refine a_buildSlice (l := [_, _]) rfl rfl sl25 z36 rfl rfl rfl rfl rfl rfl rfl hm trivial fun m2 w hg_m2 hm hh => ?_
    refine a_append rfl rfl rfl rfl rfl rfl sl25 sl25 z36 rfl rfl (Rd.row0 (hm.get (k := 0) rfl)) rfl ha_o hm 3 rfl (by omega) (by omega) fun p_o cap_o g_o b_o w ha_o hm => ?_
    refine rw_p rfl rfl (y_assign rfl) ?_
    refine rw_done ?_
    refine gn_sq ?_
    refine HW_seq rfl ?_
    refine HW_text (.pure 0 (.pure 1 (.pure 2 (.pure 3 (.pure 4 (.pure 5 (.act 6 (.pure 7 (.pure 8 .done))))))))) (by kernel_rfl) ?_
    refine rw_p rfl rfl (y_move rfl) ?_
    refine rw_p rfl rfl (y_move rfl) ?_
    refine rw_g rfl rfl rfl (fun hc => (y_fieldAddr rfl fo54_0)) ?_
    refine rw_g rfl rfl rfl (fun hc => (y_load (gx hc rfl) sc34 (hm.nt 1 rfl) rfl)) ?_
    refine rw_g rfl rfl rfl (fun hc => (y_fieldAddr rfl fo54_1)) ?_
    refine rw_g rfl rfl rfl (fun hc => (y_load (gx hc rfl) sc3 (hm.nt 1 rfl) rfl)) ?_
    refine a_callG rfl rfl rfl (fun hc => (evs_c (gx hc rfl) (evs_c (gx hc rfl) evs_n))) go21 (fun hc => (r6_fits _ _ _ hf.1 hf.2)) trivial fun w hE hh => ?_
    replace hm := hm.ext hE
    refine rw_p rfl rfl (y_and rfl rfl rfl) ?_
    refine rw_p rfl rfl (y_assign rfl) ?_
    refine rw_done ?_
    refine gn_sq ?_
    refine HW_seq rfl ?_
    refine HW_text (.pure 0 .done) (by kernel_rfl) ?_
    refine rw_p rfl rfl (y_move rfl) ?_
    refine rw_done ?_
    refine gn_sq ?_
    refine HW_cond rfl rfl (fun hc1 => ?_) (fun hc1 => ?_)
    ·
      simp only [Bool.and_eq_true] at hc1
      obtain ⟨hf1, hf2⟩ := Pl.fits_bnd hc1.2
      refine HW_text (.pure 0 (.pure 1 (.pure 2 (.pure 3 (.pure 4 (.act 5 (.pure 6 .done))))))) (by kernel_rfl) ?_
      refine rw_p rfl rfl (y_move rfl) ?_
      refine rw_p rfl rfl (y_fieldAddr rfl fo54_0) ?_
      refine rw_p rfl rfl (y_load rfl sc34 (hm.nt 1 rfl) rfl) ?_
      refine rw_p rfl rfl (y_fieldAddr rfl fo54_1) ?_
      refine rw_p rfl rfl (y_load rfl sc3 (hm.nt 1 rfl) rfl) ?_
      refine a_call rfl rfl rfl go22 (C.eqv (r6_append x.2.2.1.p x.2.2.1.cap x.2.2.2 f.1 f.2 _ (ha_q.rd hm 2 rfl) (by rw [← ha_q.lenB]; omega) hf.1 ⟨hf1, hf2⟩) (by rw [ha_q.lenB])) fun v w hR => ?_
      obtain ⟨p_z, n_z, cap_z, g_z, b_z, rfl, ha_z, hmc⟩ := hR
      refine ⟨trivial, ?_⟩
      replace hm := hm.callN hmc
      obtain rfl := ha_z.lenB
      have hz := ha_q.lenB
      have hz2 : (x.2.2.2 ++ Pl.be f.1 f.2.toNat).length ≤ 8 * x.1 + 8 := by rw [List.length_append, Pl.be_len]; omega
      refine rw_p rfl rfl (y_assign rfl) ?_
      refine rw_done ?_
      refine gn_bl ?_
      refine gn_sq ?_
      refine HW_text (.pure 0 (.pure 1 .done)) (by kernel_rfl) ?_
      refine rw_p rfl rfl (y_add rfl rfl (i64w (by omega) (by omega))) ?_
      refine rw_p rfl rfl (y_move rfl) ?_
      refine rw_done ?_
      refine next (x.1 + 1, ⟨p_o, _, cap_o, g_o, b_o⟩, ⟨p_z, _, cap_z, g_z, b_z⟩, x.2.2.2 ++ Pl.be f.1 f.2.toNat) (by simp only; omega) ⟨(hm.pick [0, 4] rfl), ha_o.to ?_, ha_z, ?_, by simp only; omega, by simp only; omega, by simp only; omega⟩ ⟨nx x.1, rfl, rfl, (by rw [Pl.fitA_next hi]; rfl), rfl, rfl, rfl, rfl, rfl, trivial⟩
      · simp only [List.take_add_one, hi, Option.toList, List.flatMap_append, List.flatMap_cons, List.flatMap_nil, List.append_nil]; rfl
      · simp only [Pl.fitA_next hi, Bool.and_eq_true]
        rintro ⟨e1, _⟩
        rw [hbs e1, Pl.putB_next hi]
    ·
      refine HW_skip rfl ?_
      refine gn_bl ?_
      refine gn_sq ?_
      refine HW_text (.pure 0 (.pure 1 .done)) (by kernel_rfl) ?_
      refine rw_p rfl rfl (y_add rfl rfl (i64w (by omega) (by omega))) ?_
      refine rw_p rfl rfl (y_move rfl) ?_
      refine rw_done ?_
      refine next (x.1 + 1, ⟨p_o, _, cap_o, g_o, b_o⟩, x.2.2.1, x.2.2.2) (by simp only; omega) ⟨(hm.pick [2, 3] rfl), ha_o.to ?_, ha_q, ?_, by simp only; omega, by simp only; omega, by simp only; omega⟩ ⟨nx x.1, rfl, rfl, (by rw [Pl.fitA_next hi]; rfl), rfl, rfl, rfl, rfl, rfl, trivial⟩
      · simp only [List.take_add_one, hi, Option.toList, List.flatMap_append, List.flatMap_cons, List.flatMap_nil, List.append_nil]; rfl
      · simp only [Pl.fitA_next hi, Bool.and_eq_true]
        rintro ⟨e1, e2⟩
        rw [e1, e2] at hc1; cases hc1
  ·
    simp only [decide_eq_false_iff_not] at hc0
    have hk : x.1 = fs.length := by omega
    rw [hk, List.take_length] at ha_o hbs
    refine HW_exit rfl ?_
    refine gx_sq (gx_lp ?_)
    refine gx_here ?_
    refine gn_sq ?_
    refine HW_seq rfl ?_
    refine HW_text (.pure 0 (.pure 1 (.pure 2 (.pure 3 (.pure 4 (.pure 5 .done)))))) (by kernel_rfl) ?_
    refine rw_p rfl rfl (y_move rfl) ?_
    refine rw_p rfl rfl (y_move rfl) ?_
    refine rw_p rfl rfl (y_move rfl) ?_
    refine rw_p rfl rfl (y_assign rfl) ?_
    refine rw_p rfl rfl (y_assign rfl) ?_
    refine rw_p rfl rfl (y_assign rfl) ?_
    refine rw_done ?_
    refine gn_sq ?_
    refine HW_ret rfl ?_
    refine toR (fin hret rfl (.tmp rfl (.tmp rfl (.tmp rfl .nil))) .more ?_)
    exact ⟨_, _, _, _, _, _, _, _, _, _, _, by rw [hk, List.take_length], ha_o, ha_q, hbs, hm⟩

set_option maxHeartbeats 400000 in
theorem law_appends (p : Option Addr) (cap : Nat) (bs : List UInt8) (q : Option Addr) (cq : Nat) (fs : List (Int × Int)) (w0 : World) (hx : Rd w0 p (bs.flatMap encB)) (hy : Rd w0 q (fs.flatMap encF)) (hok : ∀ f ∈ fs, Pl.okF f) : C Try.prog 3 [.slice p bs.length cap, .slice q fs.length cq] w0 fun v w' => v = .bool true ∧ Ext No w0 w' := by
  refine C_of Try.func3 rfl rfl rfl fun k hret hnorm => ?_
  have hm := Mem.start w0
  refine HW_seq rfl ?_
  refine HW_text (.pure 0 .done) (by kernel_rfl) ?_
  refine rw_p rfl rfl (y_assign rfl) ?_
  refine rw_done ?_
  refine gn_sq ?_
  refine HW_seq rfl ?_
  refine HW_seq rfl ?_
  refine HW_text (.pure 0 (.pure 1 (.pure 2 (.pure 3 (.pure 4 (.pure 5 (.pure 6 (.pure 7 .done)))))))) (by kernel_rfl) ?_
  refine rw_p rfl rfl (y_move rfl) ?_
  refine rw_p rfl rfl (y_len rfl rfl sl22) ?_
  refine rw_p rfl rfl (y_gt rfl rfl) ?_
  refine rw_p rfl rfl (y_move rfl) ?_
  refine rw_g rfl rfl rfl (fun hc => (y_move rfl)) ?_
  refine rw_g rfl rfl rfl (fun hc => (y_len (gx hc rfl) rfl sl23)) ?_
  refine rw_g rfl rfl rfl (fun hc => (y_gt (gx hc rfl) rfl)) ?_
  refine rw_p rfl rfl (y_or rfl rfl rfl) ?_
  refine rw_done ?_
  refine gn_sq ?_
  refine HW_cond rfl rfl (fun hc0 => ?_) (fun hc0 => ?_)
  ·
    simp only [Bool.and_eq_true, Bool.or_eq_true, Bool.and_eq_false_iff, Bool.or_eq_false_iff, Bool.not_eq_true', Bool.not_eq_false', decide_eq_true_eq, decide_eq_false_iff_not] at hc0
    refine HW_seq rfl ?_
    refine HW_text (.act 0 (.pure 1 .done)) (by kernel_rfl) ?_
    refine a_call rfl rfl rfl go7 (law_alive _) fun v w hR => ?_
    obtain ⟨rfl, hE⟩ := hR
    refine ⟨trivial, ?_⟩
    replace hm := hm.ext hE
    refine rw_p rfl rfl (y_assign rfl) ?_
    refine rw_done ?_
    refine gn_sq ?_
    refine HW_ret rfl ?_
    refine gr_sq ?_
    refine toR (fin hret rfl (.tmp rfl .nil) .one ?_)
    exact ⟨rfl, hm.to⟩
  ·
    simp only [Bool.and_eq_true, Bool.or_eq_true, Bool.and_eq_false_iff, Bool.or_eq_false_iff, Bool.not_eq_true', Bool.not_eq_false', decide_eq_true_eq, decide_eq_false_iff_not] at hc0
    refine HW_skip rfl ?_
    refine gn_sq ?_
    refine HW_seq rfl ?_
    refine HW_text (.pure 0 (.act 1 (.pure 2 (.pure 3 (.pure 4 (.pure 5 (.pure 6 (.pure 7 (.pure 8 .done))))))))) (by kernel_rfl) ?_
    refine rw_p rfl rfl (y_move rfl) ?_
    refine a_call rfl rfl rfl go8 (law_fields q cq fs _ (hy.ext0 hm.to) hok (by omega)) fun v w hR => ?_
    obtain ⟨p_f, n_f, cap_f, g_f, b_f, p_w, n_w, cap_w, g_w, b_w, ws, rfl, ha_f, ha_w, hws, hmc⟩ := hR
    refine ⟨trivial, ?_⟩
    replace hm := hm.callN hmc
    obtain rfl := ha_w.lenB
    obtain rfl : n_f = fs.length := by have := ha_f.len; rw [fm_length encF_len] at this; omega
    refine rw_p rfl rfl (y_move rfl) ?_
    refine rw_p rfl rfl (y_extract rfl rfl) ?_
    refine rw_p rfl rfl (y_extract rfl rfl) ?_
    refine rw_p rfl rfl (y_extract rfl rfl) ?_
    refine rw_p rfl rfl (y_assign rfl) ?_
    refine rw_p rfl rfl (y_assign rfl) ?_
    refine rw_p rfl rfl (y_assign rfl) ?_
    refine rw_done ?_
    refine gn_sq ?_
    refine HW_seq rfl ?_
    refine HW_text (.act 0 (.pure 1 (.act 2 (.act 3 (.act 4 (.pure 5 .done)))))) (by kernel_rfl) ?_
    refine a_buildSlice (l := []) rfl rfl sl22 z5 rfl rfl rfl rfl rfl rfl rfl hm trivial fun m1 w hg_m1 hm hh => ?_
    refine rw_p rfl rfl (y_move rfl) ?_
    refine a_append rfl rfl rfl rfl rfl rfl sl22 sl22 z5 rfl (oneB bs) (hx.ext0 hm.to) (lenB bs) (Acc.row rfl) hm 0 rfl (by omega) (by omega) fun p_s cap_s g_s b_s w ha_s hm => ?_
    refine a_buildSlice (l := [_]) rfl rfl sl22 z5 rfl rfl rfl rfl rfl rfl rfl hm trivial fun m2 w hg_m2 hm hh => ?_
    refine a_append rfl rfl rfl rfl rfl rfl sl22 sl22 z5 rfl rfl (Rd.row0 (hm.get (k := 0) rfl)) rfl ha_s hm 1 rfl (by omega) (by omega) fun p_s cap_s g_s b_s w ha_s hm => ?_
    replace ha_s := ha_s.to (show _ = (bs ++ [77]).flatMap encB by simp [encB])
    have hcs := ha_s.le
    refine rw_p rfl rfl (y_assign rfl) ?_
    refine rw_done ?_
    refine gn_sq ?_
    refine HW_seq rfl ?_
    refine HW_text (.pure 0 (.pure 1 (.pure 2 (.pure 3 (.pure 4 (.act 5 (.pure 6 (.pure 7 (.pure 8 (.pure 9 (.pure 10 .done))))))))))) (by kernel_rfl) ?_
    refine rw_p rfl rfl (y_move rfl) ?_
    refine rw_p rfl rfl (y_move rfl) ?_
    refine rw_p rfl rfl (y_len rfl rfl sl22) ?_
    refine rw_p rfl rfl (y_slice (ln := 0) (hn := bs.length) rfl sl22 rfl ⟨_, rfl⟩ (Nat.zero_le _) (by omega) (fun h => ha_s.spot (by omega))) ?_
    refine rw_p rfl rfl (y_move rfl) ?_
    refine a_call rfl rfl rfl go9 (C.eqv (w_append p_s cap_s bs p_f cap_f fs _ (by have := (ha_s.rd hm 1 rfl).takeB bs.length; rwa [List.take_left] at this) (ha_f.rd hm 3 rfl) (by omega) (by omega) hok) (by rw [slp_zero' ha_s.spot]; rfl)) fun v w hR => ?_
    obtain ⟨p_g, n_g, cap_g, g_g, b_g, rfl, ha_g, hmc⟩ := hR
    refine ⟨trivial, ?_⟩
    replace hm := hm.callN hmc
    obtain rfl := ha_g.lenB
    refine rw_p rfl rfl (y_move rfl) ?_
    refine rw_p rfl rfl (y_extract rfl rfl) ?_
    refine rw_p rfl rfl (y_extract rfl rfl) ?_
    refine rw_p rfl rfl (y_assign rfl) ?_
    refine rw_p rfl rfl (y_assign rfl) ?_
    refine rw_done ?_
    refine gn_sq ?_
    refine HW_seq rfl ?_
    refine HW_seq rfl ?_
    refine HW_text (.pure 0 (.pure 1 .done)) (by kernel_rfl) ?_
    refine rw_p rfl rfl (y_move rfl) ?_
    refine rw_p rfl rfl (y_not rfl) ?_
    refine rw_done ?_
    refine gn_sq ?_
    refine HW_cond rfl rfl (fun hc1 => ?_) (fun hc1 => ?_)
    ·
      have hA : Pl.fitA fs = false := by simpa using hc1
      have hW : Pl.wout bs fs = [] := by unfold Pl.wout; rw [hA]; rfl
      refine HW_seq rfl ?_
      refine HW_text (.act 0 (.pure 1 (.pure 2 (.pure 3 (.pure 4 (.pure 5 (.pure 6 (.pure 7 (.pure 8 (.pure 9 (.pure 10 .done))))))))))) (by kernel_rfl) ?_
      refine a_call rfl rfl rfl go7 (law_alive _) fun v w hR => ?_
      obtain ⟨rfl, hE⟩ := hR
      refine ⟨trivial, ?_⟩
      replace hm := hm.ext hE
      refine rw_p rfl rfl (y_move rfl) ?_
      refine rw_p rfl rfl (y_move rfl) ?_
      refine rw_p rfl rfl (y_as (c := true) (y_not rfl) (by simp [hA])) ?_
      refine rw_p rfl rfl (y_pickT rfl rfl) ?_
      refine rw_p rfl rfl (y_move rfl) ?_
      refine rw_p rfl rfl (y_move rfl) ?_
      refine rw_p rfl rfl (y_len rfl rfl sl22) ?_
      refine rw_p rfl rfl (y_as (c := true) (y_eq rfl rfl) (by simp [hW])) ?_
      refine rw_p rfl rfl (y_pickT rfl rfl) ?_
      refine rw_p rfl rfl (y_assign rfl) ?_
      refine rw_done ?_
      refine gn_sq ?_
      refine HW_ret rfl ?_
      refine gr_sq ?_
      refine toR (fin hret rfl (.tmp rfl .nil) .one ?_)
      exact ⟨rfl, hm.to⟩
    ·
      have hA : Pl.fitA fs = true := by simpa using hc1
      have hW : Pl.wout bs fs = bs ++ Pl.putB fs := by unfold Pl.wout; rw [hA]; rfl
      obtain rfl := hws hA
      have h77 : (bs ++ [77])[bs.length]? = some 77 := by simp
      obtain ⟨bb, bo, rfl⟩ := (ha_s.rd hm 2 rfl).atI encB_len (by decide) h77
      have hpl : (Pl.putB fs).length ≤ 8 * fs.length := Pl.putB_len hA
      refine HW_skip rfl ?_
      refine gn_sq ?_
      refine HW_seq rfl ?_
      refine HW_text (.act 0 (.pure 1 (.pure 2 (.pure 3 (.pure 4 (.pure 5 (.act 6 (.pure 7 (.act 8 (.pure 9 (.act 10 (.act 11 (.pure 12 (.pure 13 (.pure 14 (.pure 15 (.pure 16 (.pure 17 (.pure 18 (.pure 19 (.pure 20 (.pure 21 .done)))))))))))))))))))))) (by kernel_rfl) ?_
      refine a_call rfl rfl rfl go7 (law_alive _) fun v w hR => ?_
      obtain ⟨rfl, hE⟩ := hR
      refine ⟨trivial, ?_⟩
      replace hm := hm.ext hE
      refine rw_p rfl rfl (y_move rfl) ?_
      refine rw_p rfl rfl (y_as (c := true) (y_move rfl) hA) ?_
      refine rw_p rfl rfl (y_pickT rfl rfl) ?_
      refine rw_p rfl rfl (y_move rfl) ?_
      refine rw_p rfl rfl (y_move rfl) ?_
      refine a_buildSlice (l := []) rfl rfl sl22 z5 rfl rfl rfl rfl rfl rfl rfl hm trivial fun m3 w hg_m3 hm hh => ?_
      refine rw_p rfl rfl (y_move rfl) ?_
      refine a_append rfl rfl rfl rfl rfl rfl sl22 sl22 z5 rfl (oneB bs) (hx.ext0 hm.to) (lenB bs) (Acc.row rfl) hm 0 rfl (by omega) (by omega) fun p_t cap_t g_t b_t w ha_t hm => ?_
      refine rw_p rfl rfl (y_move rfl) ?_
      refine a_append rfl rfl rfl rfl rfl rfl sl22 sl22 z5 rfl (oneB _) (ha_w.rd hm 4 rfl) (lenB _) ha_t hm 0 rfl (by omega) (by omega) fun p_t cap_t g_t b_t w ha_t hm => ?_
      replace ha_t := ha_t.to (show _ = (bs ++ Pl.putB fs).flatMap encB by simp)
      have hlt := ha_t.lenB
      refine a_call rfl rfl rfl go10 (C.as (v := .bool true) (C.eqv (eq_b p_g p_t cap_g cap_t (Pl.wout bs fs) (bs ++ Pl.putB fs) _ (ha_g.rd hm 1 rfl) (ha_t.rd hm 0 rfl) (by rw [hW, List.length_append]; omega) (by rw [List.length_append]; omega)) (by rw [hlt]; rfl)) (congrArg Value.bool (by simp [hW]))) fun v w hR => ?_
      obtain ⟨rfl, hE⟩ := hR
      refine ⟨trivial, ?_⟩
      replace hm := hm.ext hE
      refine rw_p rfl rfl (y_pickT rfl rfl) ?_
      refine rw_p rfl rfl (y_move rfl) ?_
      refine rw_p rfl rfl (y_move rfl) ?_
      refine rw_p rfl rfl (y_move rfl) ?_
      refine rw_p rfl rfl (y_len rfl rfl sl22) ?_
      refine rw_p rfl rfl (y_index rfl rfl sl22 rfl (by omega) (by omega)) ?_
      refine rw_p rfl rfl (y_el1 rfl sc5 (ha_s.rd hm 3 rfl).nt encB_len h77 rfl) ?_
      refine rw_p rfl rfl (y_as (c := true) (y_eq rfl rfl) (by decide)) ?_
      refine rw_p rfl rfl (y_pickT rfl rfl) ?_
      refine rw_p rfl rfl (y_assign rfl) ?_
      refine rw_done ?_
      refine gn_sq ?_
      refine HW_ret rfl ?_
      refine toR (fin hret rfl (.tmp rfl .nil) .one ?_)
      exact ⟨rfl, hm.to⟩

end Go.Proofs.Ytoemhcpmdeinfaa
