/- Contracts of functions of the program: what each returns. Conditions: the hypotheses of each theorem. -/
import Derived.Test.YtpandemmaoeioaaChk
import Derived.Test.YtpandemmaoeioaaCxR
set_option linter.unusedVariables false
set_option linter.unusedSimpArgs false
namespace Go.Proofs.Ytpandemmaoeioaa
open Go Go.Cx

theorem go52 : isGo Try.prog 52 = true := by kernel_rfl
theorem sl22 : slcO Try.prog 22 = some (34, 5, 56) := by kernel_rfl

set_option maxHeartbeats 400000 in
theorem r17_split (c : Pl.Cm) (p : Option Addr) (cap : Nat) (s : Int) (w0 : World) (hc : Pl.ccheck c = 0) (hr : Rd w0 p (c.bs.flatMap encB)) (hle : c.bs.length ≤ cap) (hsp : cap ≠ 0 → ∀ ad, p = some ad → ad.spot = none) (hl : c.bs.length ≤ 140737488355328) (hs : Pl.I64 s)  : C Try.prog 36 [.agg ⟨cmV c p c.bs.length cap⟩, .int .i64 s] w0 fun v w' => ∃ (xs : List CmdV) (p : Option Addr) (n cap g : Nat) (b : Blk) (B : List (Nat × Blk)), v = .slice p n cap ∧ Acc 34 5 p n cap (xs.flatMap encC) g b ∧ xs.map CmdV.cm = (Pl.chunks c s) ∧ (∀ x ∈ xs, Held B 5 x.d) ∧ Mem w0 w' No ((g, b) :: B) := by
  have hcn := Pl.chCount_nonneg (s := s) hc
  refine C_of Try.func36 rfl rfl rfl fun κ hret hnorm => ?_
  have hm := Mem.start w0
  refine HW_seq rfl ?_
  refine HW_text (.act 0 (.pure 1 .done)) (by kernel_rfl) ?_
  refine a_box rfl rfl rfl rfl hm trivial fun m1 w hg_m1 hm hh => ?_
  refine rw_p rfl rfl (y_assign rfl) ?_
  refine rw_done ?_
  refine gn_sq ?_
  refine HW_seq rfl ?_
  refine HW_text (.pure 0 (.pure 1 (.act 2 (.pure 3 .done)))) (by kernel_rfl) ?_
  refine rw_p rfl rfl (y_loadA (s := 5) (vs := [_, _, _, _, _]) rfl ag34 (hm.nt 0 rfl) rfl) ?_
  refine rw_p rfl rfl (y_move rfl) ?_
  refine a_call rfl rfl rfl go28 (r17_count c p cap s _ hc hs) fun v w hR => ?_
  obtain ⟨rfl, hE⟩ := hR
  refine ⟨trivial, ?_⟩
  replace hm := hm.ext hE
  refine rw_p rfl rfl (y_assign rfl) ?_
  refine rw_done ?_
  refine gn_sq ?_
  refine HW_seq rfl ?_
  refine HW_seq rfl ?_
  refine HW_text (.pure 0 (.pure 1 .done)) (by kernel_rfl) ?_
  refine rw_p rfl rfl (y_move rfl) ?_
  refine rw_p rfl rfl (y_gt rfl rfl) ?_
  refine rw_done ?_
  refine gn_sq ?_
  refine HW_cond rfl rfl (fun hc0 => ?_) (fun hc0 => ?_)
  ·
    simp only [decide_eq_true_eq] at hc0
    have hch : Pl.chunks c s = [] := by unfold Pl.chunks; rw [if_pos (by omega)]
    refine HW_seq rfl ?_
    refine HW_text (.pure 0 .done) (by kernel_rfl) ?_
    refine rw_p rfl rfl (y_assign rfl) ?_
    refine rw_done ?_
    refine gn_sq ?_
    refine HW_ret rfl ?_
    refine gr_sq ?_
    refine toR (fin hret rfl (.tmp rfl .nil) .one ?_)
    exact ⟨[], none, 0, 0, 0, .gap, [], rfl, .nil _ _ _ _, by rw [hch]; rfl, by simp, (hm.drop (List.nil_sublist _)).gapIn⟩
  ·
    simp only [decide_eq_false_iff_not] at hc0
    obtain ⟨N, hN⟩ : ∃ N : Nat, Pl.chCount c s = N := ⟨(Pl.chCount c s).toNat, by omega⟩
    have hch : Pl.chunks c s = (List.range N).map fun k => Pl.chAt c s (k : Nat) := by unfold Pl.chunks; rw [if_neg (by omega), hN, Int.toNat_natCast]
    refine HW_skip rfl ?_
    refine gn_sq ?_
    refine HW_seq rfl ?_
    refine HW_text (.pure 0 .done) (by kernel_rfl) ?_
    refine rw_p rfl rfl (y_assign rfl) ?_
    replace hm := hm.gapIn
    have ha_o := Acc.nil 34 5 none 0
    refine rw_done ?_
    refine gn_sq ?_
    refine HW_seq rfl ?_
    refine HW_seq rfl ?_
    refine HW_text (.pure 0 .done) (by kernel_rfl) ?_
    refine rw_p rfl rfl (y_assign rfl) ?_
    refine rw_done ?_
    refine gn_sq ?_
    refine HW_block rfl ?_
    refine HW_loopK (ι := Nat × Ow × List CmdV × List (Nat × Blk)) rfl (ks := [1, 2, 4, 5]) (.cons rfl (.cons rfl (.cons rfl (.cons rfl .nil)))) (fun x => [(7, .int .i64 x.1), (6, .slice x.2.1.p x.2.1.n x.2.1.cap)]) (fun x w => Mem w0 w No ((x.2.1.g, x.2.1.b) :: (m1, .row 34 (cmV c p c.bs.length cap)) :: x.2.2.2) ∧ Acc 34 5 x.2.1.p x.2.1.n x.2.1.cap (x.2.2.1.flatMap encC) x.2.1.g x.2.1.b ∧ x.2.2.1.map CmdV.cm = (List.range x.1).map (fun k => Pl.chAt c s (k : Nat)) ∧ (∀ y ∈ x.2.2.1, Held x.2.2.2 5 y.d) ∧ x.1 ≤ N ∧ x.2.1.n = x.1) (fun x => N - x.1) (0, ⟨none, 0, 0, 0, .gap⟩, [], []) (⟨(hm.pick [0, 1] rfl), ha_o, rfl, by simp, Nat.zero_le _, rfl⟩) ⟨rfl, rfl, trivial⟩ (fun x w hM => ?_)
    obtain ⟨hm, ha_o, hxm, hH, hk, hn⟩ := hM
    refine HW_seq rfl ?_
    refine HW_seq rfl ?_
    refine HW_text (.pure 0 (.pure 1 (.pure 2 .done))) (by kernel_rfl) ?_
    refine rw_p rfl rfl (y_move rfl) ?_
    refine rw_p rfl rfl (y_move rfl) ?_
    refine rw_p rfl rfl (y_lt rfl rfl) ?_
    refine rw_done ?_
    refine gn_sq ?_
    refine HW_cond rfl rfl (fun hc1 => ?_) (fun hc1 => ?_)
    ·
      simp only [decide_eq_true_eq] at hc1
      refine HW_skip rfl ?_
      refine gn_sq ?_
      refine HW_seq rfl ?_
      refine HW_block rfl ?_
      refine HW_text (.pure 0 (.pure 1 (.pure 2 (.pure 3 (.act 4 (.act 5 (.act 6 (.pure 7 .done)))))))) (by kernel_rfl) ?_
      refine rw_p rfl rfl (y_move rfl) ?_
      refine rw_p rfl rfl (y_loadA (s := 5) (vs := [_, _, _, _, _]) rfl ag34 (hm.nt 1 rfl) rfl) ?_
      refine rw_p rfl rfl (y_move rfl) ?_
      refine rw_p rfl rfl (y_move rfl) ?_
      refine a_call rfl rfl rfl go52 (r17_at c p cap s x.1 _ hc (hr.ext0 hm.to) hle hsp hl hs (by omega)) fun v w hR => ?_
      obtain ⟨p_s, n_s, cap_s, g_s, b_s, rfl, ha_s, hmc⟩ := hR
      refine ⟨trivial, ?_⟩
      replace hm := hm.callN hmc
      obtain rfl := ha_s.lenB
      refine a_buildSlice (l := [_, _, _, _, _]) rfl rfl sl22 z34 rfl rfl rfl rfl rfl rfl rfl hm trivial fun m2 w hg_m2 hm hh => ?_
      refine a_append rfl rfl rfl rfl rfl rfl sl22 sl22 z34 rfl rfl (Rd.row0 (hm.get (k := 0) rfl)) rfl ha_o hm 2 rfl (by omega) (by omega) fun p_o cap_o g_o b_o w ha_o hm => ?_
      replace hm := hm.stow 1 rfl
      refine rw_p rfl rfl (y_assign rfl) ?_
      refine rw_done ?_
      refine gn_bl ?_
      refine gn_sq ?_
      refine HW_text (.pure 0 (.pure 1 (.pure 2 .done))) (by kernel_rfl) ?_
      refine rw_p rfl rfl (y_move rfl) ?_
      refine rw_p rfl rfl (y_add rfl rfl (i64w (by omega) (by omega))) ?_
      refine rw_p rfl rfl (y_assign rfl) ?_
      refine rw_done ?_
      refine next (x.1 + 1, ⟨p_o, _, cap_o, g_o, b_o⟩, x.2.2.1 ++ [mkC (Pl.chAt c s x.1) p_s cap_s], x.2.2.2 ++ [(g_s, b_s)]) (by simp only; omega) ⟨(hm.pickT [1, 2] 3 rfl), ha_o.to ?_, ?_, heldAdd hH (ha_s.held (by simp)), by simp only; omega, by simp only; omega⟩ ⟨nx x.1, rfl, rfl, rfl, rfl, rfl, trivial⟩
      · simp only [List.flatMap_append, List.flatMap_cons, List.flatMap_nil, List.append_nil]; rfl
      · rw [List.map_append, hxm, Pl.chunks_next]; rfl
    ·
      simp only [decide_eq_false_iff_not] at hc1
      have hke : x.1 = N := by omega
      rw [hke] at hxm
      refine HW_exit rfl ?_
      refine gx_sq (gx_lp ?_)
      refine gx_here ?_
      refine gn_sq ?_
      refine HW_seq rfl ?_
      refine HW_text (.pure 0 (.pure 1 .done)) (by kernel_rfl) ?_
      refine rw_p rfl rfl (y_move rfl) ?_
      refine rw_p rfl rfl (y_assign rfl) ?_
      refine rw_done ?_
      refine gn_sq ?_
      refine HW_ret rfl ?_
      refine toR (fin hret rfl (.tmp rfl .nil) .one ?_)
      exact ⟨x.2.2.1, _, _, _, _, _, x.2.2.2, rfl, ha_o, by rw [hxm, hch], hH, (hm.pickT [0] 2 rfl)⟩

end Go.Proofs.Ytpandemmaoeioaa
