/- Contracts of functions of the program: what each returns. Conditions: the hypotheses of each theorem. -/
import Derived.Test.YtoemhcpmdeinfaaWire
set_option linter.unusedVariables false
set_option linter.unusedSimpArgs false
namespace Go.Proofs.Ytoemhcpmdeinfaa
open Go Go.Cx

theorem ag36 : aggS Try.prog 36 = some 2 := by kernel_rfl
theorem go23 : isGo Try.prog 23 = true := by kernel_rfl
theorem go24 : isGo Try.prog 24 = true := by kernel_rfl
theorem is34 : (Try.prog.underlying 34).isSome = true := by kernel_rfl
theorem it5 : intO Try.prog 5 = some .u8 := by kernel_rfl
theorem sl25 : slcO Try.prog 25 = some (36, 2, 16) := by kernel_rfl
theorem sz36 : szO Try.prog 36 = some 2 := by kernel_rfl
theorem z36 : zer Try.prog 36 = some [.int .u64 0, .int .i64 0] := by kernel_rfl

set_option maxHeartbeats 400000 in
theorem w_append (p : Option Addr) (cap : Nat) (bs : List UInt8) (q : Option Addr) (cq : Nat) (fs : List (Int × Int)) (w0 : World) (hx : Rd w0 p (bs.flatMap encB)) (hy : Rd w0 q (fs.flatMap encF)) (hlen : bs.length ≤ 1099511627776) (hl : fs.length ≤ 1099511627776) (hok : ∀ f ∈ fs, Pl.okF f) : C Try.prog 9 [.slice p bs.length cap, .slice q fs.length cq] w0 fun v w' => ∃ p n cap g b, v = .tuple ⟨[.slice p n cap, .bool (Pl.fitA fs)]⟩ ∧ Acc 5 1 p n cap ((Pl.wout bs fs).flatMap encB) g b ∧ Mem w0 w' No [(g, b)] := by
  refine C_of Try.func9 rfl rfl rfl fun k hret hnorm => ?_
  have hm := Mem.start w0
  refine HW_seq rfl ?_
  refine HW_text (.pure 0 (.pure 1 .done)) (by kernel_rfl) ?_
  refine rw_p rfl rfl (y_assign rfl) ?_
  refine rw_p rfl rfl (y_assign rfl) ?_
  refine rw_done ?_
  refine gn_sq ?_
  refine HW_seq rfl ?_
  refine HW_text (.pure 0 (.act 1 (.pure 2 .done))) (by kernel_rfl) ?_
  refine rw_p rfl rfl (y_move rfl) ?_
  refine a_call rfl rfl rfl go23 (clone_b p cap bs _ (hx.ext0 hm.to) (by omega)) fun v w hR => ?_
  obtain ⟨p_s, cap_s, g_s, b_s, rfl, ha_s, hmc⟩ := hR
  refine ⟨trivial, ?_⟩
  have hg_s : b_s.real = true → _ := fun hr => (hmc.fresh _ List.mem_cons_self hr).resolve_left id
  replace hm := hm.callN hmc
  refine rw_p rfl rfl (y_assign rfl) ?_
  refine rw_done ?_
  refine gn_sq ?_
  refine HW_seq rfl ?_
  refine HW_seq rfl ?_
  refine HW_text (.pure 0 (.pure 1 (.pure 2 .done))) (by kernel_rfl) ?_
  refine rw_p rfl rfl (y_move rfl) ?_
  refine rw_p rfl rfl (y_len rfl rfl sl25) ?_
  refine rw_p rfl rfl (y_move rfl) ?_
  refine rw_done ?_
  refine gn_sq ?_
  refine HW_block rfl ?_
  refine HW_loopK (ι := Nat × Ow) rfl (ks := [12, 13]) (.cons rfl (.cons rfl .nil)) (fun x => [(14, .int .i64 x.1), (6, .slice x.2.p x.2.n x.2.cap)]) (fun x w => Mem w0 w No [(x.2.g, x.2.b)] ∧ Acc 5 1 x.2.p x.2.n x.2.cap ((bs ++ Pl.putB (fs.take x.1)).flatMap encB) x.2.g x.2.b ∧ x.1 ≤ fs.length ∧ Pl.fitA (fs.take x.1) = true ∧ x.2.n ≤ bs.length + 8 * x.1) (fun x => fs.length - x.1) (0, ⟨p_s, _, cap_s, g_s, b_s⟩) (⟨hm, by simpa [Pl.putB] using ha_s, Nat.zero_le _, rfl, Nat.le_refl _⟩) ⟨rfl, rfl, trivial⟩ (fun x w hM => ?_)
  obtain ⟨hm, ha_s, hk, hfit, hn⟩ := hM
  refine HW_seq rfl ?_
  refine HW_text (.pure 0 .done) (by kernel_rfl) ?_
  refine rw_p rfl rfl (y_lt rfl rfl) ?_
  refine rw_done ?_
  refine gn_sq ?_
  refine HW_seq rfl ?_
  refine HW_cond rfl rfl (fun hc0 => ?_) (fun hc0 => ?_)
  ·
    simp only [decide_eq_true_eq] at hc0
    obtain ⟨f, hi⟩ : ∃ y_, fs[x.1]? = some y_ := ⟨_, List.getElem?_eq_getElem (by omega)⟩
    obtain ⟨qb, qo, rfl⟩ := hy.atI encF_len (by decide) hi
    have hf := hok f (List.mem_of_getElem? hi)
    unfold Pl.okF at hf
    refine HW_skip rfl ?_
    refine gn_sq ?_
    refine HW_seq rfl ?_
    refine HW_block rfl ?_
    refine HW_seq rfl ?_
    refine HW_text (.pure 0 (.pure 1 (.act 2 (.act 3 .done)))) (by kernel_rfl) ?_
    refine rw_p rfl rfl (y_index rfl rfl sl25 rfl (by omega) (by omega)) ?_
    refine rw_p rfl rfl (y_elA rfl ag36 (hy.ext0 hm.to).nt encF_len hi) ?_
    refine a_alloc rfl rfl z36 hm trivial fun m1 w hg_m1 hm hh => ?_
    refine a_store rfl rfl rfl rfl sz36 rfl hm 0 rfl rfl fun w hm => ?_
    refine rw_done ?_
    refine gn_sq ?_
    refine HW_seq rfl ?_
    refine HW_seq rfl ?_
    refine HW_text (.pure 0 (.act 1 (.pure 2 .done))) (by kernel_rfl) ?_
    refine rw_p rfl rfl (y_loadA (s := 2) (vs := [_, _]) rfl ag36 (hm.nt 0 rfl) rfl) ?_
    refine a_call rfl rfl rfl go24 (w_fits _ _ _ hf.1 hf.2) fun v w hR => ?_
    obtain ⟨rfl, hE⟩ := hR
    refine ⟨trivial, ?_⟩
    replace hm := hm.ext hE
    refine rw_p rfl rfl (y_not rfl) ?_
    refine rw_done ?_
    refine gn_sq ?_
    refine HW_cond rfl rfl (fun hc1 => ?_) (fun hc1 => ?_)
    ·
      simp only [Bool.not_eq_true'] at hc1
      refine HW_seq rfl ?_
      refine HW_text (.pure 0 (.pure 1 .done)) (by kernel_rfl) ?_
      refine rw_p rfl rfl (y_assign rfl) ?_
      refine rw_p rfl rfl (y_assign rfl) ?_
      refine rw_done ?_
      refine gn_sq ?_
      refine HW_ret rfl ?_
      refine gr_sq (gr_bl (gr_sq (gr_lp (gr_bl (gr_sq ?_)))))
      refine toR (fin hret rfl (.tmp rfl (.tmp rfl .nil)) .more ?_)
      have e : Pl.fitA fs = false := Pl.fitA_not hi hc1
      exact ⟨none, 0, 0, 0, .gap, by rw [e], by unfold Pl.wout; rw [e]; exact .nil _ _ _ _, (hm.drop (List.nil_sublist _)).gapIn⟩
    ·
      simp only [Bool.not_eq_false'] at hc1
      obtain ⟨hf1, hf2⟩ := Pl.fits_bnd hc1
      refine HW_skip rfl ?_
      refine gn_sq ?_
      refine HW_seq rfl ?_
      refine HW_text (.pure 0 (.pure 1 (.pure 2 (.pure 3 .done)))) (by kernel_rfl) ?_
      refine rw_p rfl rfl (y_fieldAddr rfl fo36_1) ?_
      refine rw_p rfl rfl (y_load rfl sc3 (hm.nt 0 rfl) rfl) ?_
      refine rw_p rfl rfl (y_sub rfl rfl (i64w (by omega) (by omega))) ?_
      refine rw_p rfl rfl (y_assign rfl) ?_
      refine rw_done ?_
      refine gn_sq ?_
      refine HW_block rfl ?_
      refine HW_loopK (ι := Nat × Ow × List UInt8) rfl (ks := [8, 12, 13, 14]) (.cons rfl (.cons rfl (.cons rfl (.cons rfl .nil)))) (fun y => [(9, .int .i64 ((y.1 : Int) - 1)), (6, .slice y.2.1.p y.2.1.n y.2.1.cap)]) (fun y w => Mem w0 w No [(m1, .row 36 (encF f)), (y.2.1.g, y.2.1.b)] ∧ Acc 5 1 y.2.1.p y.2.1.n y.2.1.cap ((bs ++ Pl.putB (fs.take x.1) ++ y.2.2).flatMap encB) y.2.1.g y.2.1.b ∧ y.2.2 ++ Pl.be f.1 y.1 = Pl.be f.1 f.2.toNat ∧ y.1 ≤ 8 ∧ y.2.1.n + y.1 ≤ bs.length + 8 * x.1 + 8) (fun y => y.1) (f.2.toNat, x.2, []) (⟨hm, by simpa using ha_s, rfl, by omega, by simp only; omega⟩) ⟨(congrArg (fun z => some (Value.int .i64 z)) (by simp only; omega)), rfl, trivial⟩ (fun y w hM => ?_)
      obtain ⟨hm, ha_s, hpre, hj, hn2⟩ := hM
      refine HW_seq rfl ?_
      refine HW_seq rfl ?_
      refine HW_text (.pure 0 (.pure 1 .done)) (by kernel_rfl) ?_
      refine rw_p rfl rfl (y_move rfl) ?_
      refine rw_p rfl rfl (y_ge rfl rfl) ?_
      refine rw_done ?_
      refine gn_sq ?_
      refine HW_cond rfl rfl (fun hc2 => ?_) (fun hc2 => ?_)
      ·
        simp only [decide_eq_true_eq] at hc2
        refine HW_skip rfl ?_
        refine gn_sq ?_
        refine HW_seq rfl ?_
        refine HW_block rfl ?_
        refine HW_text (.pure 0 (.pure 1 (.pure 2 (.pure 3 (.pure 4 (.pure 5 (.pure 6 (.act 7 (.act 8 (.pure 9 .done)))))))))) (by kernel_rfl) ?_
        refine rw_p rfl rfl (y_move rfl) ?_
        refine rw_p rfl rfl (y_fieldAddr rfl fo36_0) ?_
        refine rw_p rfl rfl (y_load rfl sc34 (hm.nt 0 rfl) rfl) ?_
        refine rw_p rfl rfl (y_move rfl) ?_
        refine rw_p rfl rfl (y_mul rfl rfl (i64w (by omega) (by omega))) ?_
        refine rw_p rfl rfl (y_shr rfl rfl (by omega) rfl) ?_
        refine rw_p rfl rfl (y_conv rfl is34 it5 (shrB (k := y.1 - 1) hf.1.1 (by omega) (by omega))) ?_
        refine a_buildSlice (l := [_]) rfl rfl sl22 z5 rfl rfl rfl rfl rfl rfl rfl hm trivial fun m2 w hg_m2 hm hh => ?_
        refine a_append rfl rfl rfl rfl rfl rfl sl22 sl22 z5 rfl rfl (Rd.row0 (hm.get (k := 0) rfl)) rfl ha_s hm 2 rfl (by omega) (by omega) fun p_s cap_s g_s b_s w ha_s hm => ?_
        refine rw_p rfl rfl (y_assign rfl) ?_
        refine rw_done ?_
        refine gn_bl ?_
        refine gn_sq ?_
        refine HW_text (.pure 0 (.pure 1 (.pure 2 .done))) (by kernel_rfl) ?_
        refine rw_p rfl rfl (y_move rfl) ?_
        refine rw_p rfl rfl (y_sub rfl rfl (i64w (by omega) (by omega))) ?_
        refine rw_p rfl rfl (y_assign rfl) ?_
        refine rw_done ?_
        refine next (y.1 - 1, ⟨p_s, _, cap_s, g_s, b_s⟩, y.2.2 ++ [Pl.byt f.1 (y.1 - 1)]) (by simp only; omega) ⟨hm.tail, ha_s.to ?_, ?_, by simp only; omega, by simp only; omega⟩ ⟨nx1 y.1 (by omega), rfl, rfl, rfl, rfl, rfl, trivial⟩
        · simp [encB]
        · rw [← hpre]; simp only [List.append_assoc, List.singleton_append]; rw [show y.1 = (y.1 - 1) + 1 by omega]; rfl
      ·
        simp only [decide_eq_false_iff_not] at hc2
        refine HW_exit rfl ?_
        refine gx_sq (gx_lp ?_)
        refine gx_here ?_
        refine gn_bl ?_
        refine gn_sq ?_
        refine HW_text (.pure 0 (.pure 1 .done)) (by kernel_rfl) ?_
        refine rw_p rfl rfl (y_add rfl rfl (i64w (by omega) (by omega))) ?_
        refine rw_p rfl rfl (y_move rfl) ?_
        refine rw_done ?_
        refine next (x.1 + 1, y.2.1) (by simp only; omega) ⟨hm.tail, ha_s.to ?_, by simp only; omega, ?_, by simp only; omega⟩ ⟨nx x.1, rfl, rfl, rfl, trivial⟩
        · have hy0 : y.1 = 0 := by omega
          rw [hy0, Pl.be, List.append_nil] at hpre
          simp only [Pl.putB_next hi, ← hpre, List.append_assoc]
        · simp only [Pl.fitA_next hi, hfit, hc1]; rfl
  ·
    simp only [decide_eq_false_iff_not] at hc0
    have hk : x.1 = fs.length := by omega
    rw [hk, List.take_length] at ha_s hfit
    refine HW_exit rfl ?_
    refine gx_sq (gx_lp ?_)
    refine gx_here ?_
    refine gn_sq ?_
    refine HW_seq rfl ?_
    refine HW_text (.pure 0 (.pure 1 (.pure 2 .done))) (by kernel_rfl) ?_
    refine rw_p rfl rfl (y_move rfl) ?_
    refine rw_p rfl rfl (y_assign rfl) ?_
    refine rw_p rfl rfl (y_assign rfl) ?_
    refine rw_done ?_
    refine gn_sq ?_
    refine HW_ret rfl ?_
    refine toR (fin hret rfl (.tmp rfl (.tmp rfl .nil)) .more ?_)
    exact ⟨_, _, _, _, _, by rw [hfit], by unfold Pl.wout; rw [hfit]; exact ha_s, hm⟩

end Go.Proofs.Ytoemhcpmdeinfaa
