/- Contracts of functions of the program: what each returns. Conditions: the hypotheses of each theorem. -/
import Derived.Test.YtabilcmhjnpjhaaLawC
import Derived.Test.YtabilcmhjnpjhaaCxP
set_option linter.unusedVariables false
set_option linter.unusedSimpArgs false
namespace Go.Proofs.Ytabilcmhjnpjhaa
open Go Go.Cx

theorem ar22 : arrO Try.prog 22 = some (3, 3, 1) := by kernel_rfl
theorem sc5 : scal Try.prog 5 = true := by kernel_rfl
theorem sz5 : szO Try.prog 5 = some 1 := by kernel_rfl

set_option maxHeartbeats 2000000 in
theorem law_makes (a b c : Int) (q : Option Addr) (cq : Nat) (ps : List SB) (w0 : World) (hq : Rd w0 q (ps.flatMap encS)) (hok : ∀ s ∈ ps, SB.ok w0 s) : C Try.prog 3 [.agg ⟨[.int .i64 a, .int .i64 b, .int .i64 c]⟩, .slice q ps.length cq] w0 fun v w' => v = .bool true ∧ Ext No w0 w' := by
  refine C_of Try.func3 rfl rfl rfl fun κ hret hnorm => ?_
  have hm := Mem.start w0
  refine HW_seq rfl ?_
  refine HW_text (.act 0 (.pure 1 .done)) (by kernel_rfl) ?_
  refine a_box rfl rfl rfl rfl hm trivial fun m1 w hg_m1 hm hh => ?_
  refine rw_p rfl rfl (y_assign rfl) ?_
  refine rw_done ?_
  refine gn_sq ?_
  refine HW_seq rfl ?_
  refine HW_seq rfl ?_
  refine HW_text (.pure 0 (.pure 1 (.pure 2 .done))) (by kernel_rfl) ?_
  refine rw_p rfl rfl (y_move rfl) ?_
  refine rw_p rfl rfl (y_len rfl rfl sl23) ?_
  refine rw_p rfl rfl (y_gt rfl rfl) ?_
  refine rw_done ?_
  refine gn_sq ?_
  refine HW_cond rfl rfl (fun hc0 => ?_) (fun hc0 => ?_)
  ·
    simp only [Bool.and_eq_true, Bool.or_eq_true, Bool.and_eq_false_iff, Bool.or_eq_false_iff, Bool.not_eq_true', Bool.not_eq_false', decide_eq_true_eq, decide_eq_false_iff_not] at hc0
    refine HW_seq rfl ?_
    refine HW_text (.act 0 (.pure 1 .done)) (by kernel_rfl) ?_
    refine a_call rfl rfl rfl go9 (law_alive _) fun v w hR => ?_
    obtain ⟨rfl, hE⟩ := hR
    refine ⟨trivial, ?_⟩
    replace hm := hm.ext hE
    refine rw_p rfl rfl (y_assign rfl) ?_
    refine rw_done ?_
    refine gn_sq ?_
    refine HW_ret rfl ?_
    refine gr_sq ?_
    refine toR (fin hret rfl (.tmp rfl .nil) .one ?_)
    exact ⟨rfl, hm.to⟩
  ·
    simp only [decide_eq_false_iff_not] at hc0
    refine HW_skip rfl ?_
    refine gn_sq ?_
    refine HW_seq rfl ?_
    refine HW_text (.pure 0 .done) (by kernel_rfl) ?_
    refine rw_p rfl rfl (y_assign rfl) ?_
    replace hm := hm.gapIn
    have ha_o := Acc.nil 25 1 none 0
    refine rw_done ?_
    refine gn_sq ?_
    refine HW_seq rfl ?_
    refine HW_text (.pure 0 .done) (by kernel_rfl) ?_
    refine rw_p rfl rfl (y_assign rfl) ?_
    replace hm := hm.gapIn
    have ha_u := Acc.nil 5 1 none 0
    refine rw_done ?_
    refine gn_sq ?_
    refine HW_seq rfl ?_
    refine HW_seq rfl ?_
    refine HW_text (.pure 0 (.pure 1 (.pure 2 .done))) (by kernel_rfl) ?_
    refine rw_p rfl rfl (y_move rfl) ?_
    refine rw_p rfl rfl (y_len rfl rfl sl23) ?_
    refine rw_p rfl rfl (y_move rfl) ?_
    refine rw_done ?_
    refine gn_sq ?_
    refine HW_block rfl ?_
    refine HW_loopK (ι := Nat × Ow × Ow × List SB × List (Nat × Blk)) rfl (ks := [2, 18, 19]) (.cons rfl (.cons rfl (.cons rfl .nil))) (fun x => [(20, .int .i64 x.1), (5, .slice x.2.1.p x.2.1.n x.2.1.cap), (6, .slice x.2.2.1.p x.2.2.1.n x.2.2.1.cap)]) (fun x w => Mem w0 w No ((x.2.2.1.g, x.2.2.1.b) :: (x.2.1.g, x.2.1.b) :: (m1, .row 22 [.int .i64 a, .int .i64 b, .int .i64 c]) :: x.2.2.2.2) ∧ Acc 25 1 x.2.1.p x.2.1.n x.2.1.cap (x.2.2.2.1.flatMap encS) x.2.1.g x.2.1.b ∧ Acc 5 1 x.2.2.1.p x.2.2.1.n x.2.2.1.cap (((ps.take x.1).flatMap (·.bs)).flatMap encB) x.2.2.1.g x.2.2.1.b ∧ x.2.2.2.1.map (·.bs) = (ps.take x.1).map (·.bs) ∧ Parts 5 x.2.2.2.1 x.2.2.2.2 ∧ x.1 ≤ ps.length ∧ x.2.1.n = x.1 ∧ x.2.2.1.n ≤ 200 * x.1) (fun x => ps.length - x.1) (0, ⟨none, 0, 0, 0, .gap⟩, ⟨none, 0, 0, 0, .gap⟩, [], []) (⟨(hm.pick [0, 1, 2] rfl), ha_o, ha_u, rfl, .nil _, Nat.zero_le _, rfl, Nat.zero_le _⟩) ⟨rfl, rfl, rfl, trivial⟩ (fun x w hM => ?_)
    obtain ⟨hm, ha_o, ha_u, hmp, hB, hk, hn, hun⟩ := hM
    refine HW_seq rfl ?_
    refine HW_text (.pure 0 .done) (by kernel_rfl) ?_
    refine rw_p rfl rfl (y_lt rfl rfl) ?_
    refine rw_done ?_
    refine gn_sq ?_
    refine HW_seq rfl ?_
    refine HW_cond rfl rfl (fun hc1 => ?_) (fun hc1 => ?_)
    ·
      simp only [decide_eq_true_eq] at hc1
      obtain ⟨e, hi⟩ : ∃ y_, ps[x.1]? = some y_ := ⟨_, List.getElem?_eq_getElem (by omega)⟩
      obtain ⟨qb, qo, rfl⟩ := hq.atI encS_len (by decide) hi
      have hoe := hok e (List.mem_of_getElem? hi)
      refine HW_skip rfl ?_
      refine gn_sq ?_
      refine HW_seq rfl ?_
      refine HW_block rfl ?_
      refine HW_seq rfl ?_
      refine HW_text (.pure 0 (.pure 1 (.pure 2 .done))) (by kernel_rfl) ?_
      refine rw_p rfl rfl (y_index rfl rfl sl23 rfl (by omega) (by omega)) ?_
      refine rw_p rfl rfl (y_el1 rfl sc25 (hq.ext0 hm.to).nt encS_len hi rfl) ?_
      refine rw_p rfl rfl (y_assign rfl) ?_
      refine rw_done ?_
      refine gn_sq ?_
      refine HW_seq rfl ?_
      refine HW_seq rfl ?_
      refine HW_text (.pure 0 (.pure 1 (.pure 2 .done))) (by kernel_rfl) ?_
      refine rw_p rfl rfl (y_move rfl) ?_
      refine rw_p rfl rfl (y_len rfl rfl sl25) ?_
      refine rw_p rfl rfl (y_gt rfl rfl) ?_
      refine rw_done ?_
      refine gn_sq ?_
      refine HW_cond rfl rfl (fun hc2 => ?_) (fun hc2 => ?_)
      ·
        simp only [Bool.and_eq_true, Bool.or_eq_true, Bool.and_eq_false_iff, Bool.or_eq_false_iff, Bool.not_eq_true', Bool.not_eq_false', decide_eq_true_eq, decide_eq_false_iff_not] at hc2
        refine HW_seq rfl ?_
        refine HW_text (.act 0 (.pure 1 .done)) (by kernel_rfl) ?_
        refine a_call rfl rfl rfl go9 (law_alive _) fun v w hR => ?_
        obtain ⟨rfl, hE⟩ := hR
        refine ⟨trivial, ?_⟩
        replace hm := hm.ext hE
        refine rw_p rfl rfl (y_assign rfl) ?_
        refine rw_done ?_
        refine gn_sq ?_
        refine HW_ret rfl ?_
        refine gr_sq (gr_bl (gr_sq (gr_lp (gr_bl (gr_sq ?_)))))
        refine toR (fin hret rfl (.tmp rfl .nil) .one ?_)
        exact ⟨rfl, hm.to⟩
      ·
        simp only [decide_eq_false_iff_not] at hc2
        refine HW_skip rfl ?_
        refine gn_sq ?_
        refine HW_seq rfl ?_
        refine HW_text (.pure 0 (.act 1 (.pure 2 (.act 3 (.act 4 (.act 5 (.pure 6 .done))))))) (by kernel_rfl) ?_
        refine rw_p rfl rfl (y_move rfl) ?_
        refine a_buildSlice (l := []) rfl rfl sl25 z5 rfl rfl rfl rfl rfl rfl rfl hm trivial fun m2 w hg_m2 hm hh => ?_
        refine rw_p rfl rfl (y_move rfl) ?_
        refine a_append rfl rfl rfl rfl rfl rfl sl25 sl25 z5 rfl (oneB e.bs) (hoe.rd.ext0 hm.to) (lenB e.bs) (Acc.row rfl) hm 0 rfl (by omega) (by omega) fun p_s cap_s g_s b_s w ha_s hm => ?_
        refine a_buildSlice (l := [_]) rfl rfl sl23 z25 rfl rfl rfl rfl rfl rfl rfl hm trivial fun m3 w hg_m3 hm hh => ?_
        refine a_append rfl rfl rfl rfl rfl rfl sl23 sl23 z25 rfl rfl (Rd.row0 (hm.get (k := 0) rfl)) rfl ha_o hm 3 rfl (by omega) (by omega) fun p_o cap_o g_o b_o w ha_o hm => ?_
        replace hm := hm.stow 1 rfl
        refine rw_p rfl rfl (y_assign rfl) ?_
        refine rw_done ?_
        refine gn_sq ?_
        refine HW_text (.pure 0 (.pure 1 (.act 2 (.pure 3 .done)))) (by kernel_rfl) ?_
        refine rw_p rfl rfl (y_move rfl) ?_
        refine rw_p rfl rfl (y_move rfl) ?_
        refine a_append rfl rfl rfl rfl rfl rfl sl25 sl25 z5 rfl (oneB e.bs) (hoe.rd.ext0 hm.to) (lenB e.bs) ha_u hm 1 rfl (by omega) (by omega) fun p_u cap_u g_u b_u w ha_u hm => ?_
        refine rw_p rfl rfl (y_assign rfl) ?_
        refine rw_done ?_
        refine gn_bl ?_
        refine gn_sq ?_
        refine HW_text (.pure 0 (.pure 1 .done)) (by kernel_rfl) ?_
        refine rw_p rfl rfl (y_add rfl rfl (i64w (by omega) (by omega))) ?_
        refine rw_p rfl rfl (y_move rfl) ?_
        refine rw_done ?_
        refine next (x.1 + 1, ⟨p_o, _, cap_o, g_o, b_o⟩, ⟨p_u, _, cap_u, g_u, b_u⟩, x.2.2.2.1 ++ [⟨p_s, cap_s, e.bs⟩], x.2.2.2.2 ++ [(g_s, b_s)]) (by simp only; omega) ⟨(hm.pickT [1, 2, 3] 4 rfl), ha_o.to ?_, ha_u.to ?_, ?_, hB.add (ha_s.to (by simp)), by simp only; omega, by simp only; omega, by simp only; omega⟩ ⟨nx x.1, rfl, rfl, rfl, rfl, rfl, trivial⟩
        · simp only [List.flatMap_append, List.flatMap_cons, List.flatMap_nil, List.append_nil]; simp [encS]
        · simp only [List.take_add_one, hi, Option.toList, List.flatMap_append, List.flatMap_cons, List.flatMap_nil, List.append_nil]
        · simp only [List.take_add_one, hi, Option.toList, List.map_append, List.map_cons, List.map_nil, hmp]
    ·
      simp only [decide_eq_false_iff_not] at hc1
      have hke : x.1 = ps.length := by omega
      rw [hke, List.take_length] at ha_u hmp
      have hul := ha_u.lenB
      have hsl : x.2.2.2.1.length = ps.length := by have := congrArg List.length hmp; simpa using this
      have hfl := bs_flat hmp
      have hnl : x.2.1.n = x.2.2.2.1.length := by omega
      refine HW_exit rfl ?_
      refine gx_sq (gx_lp ?_)
      refine gx_here ?_
      refine gn_sq ?_
      refine HW_via (ι := Nat × Nat × Ow) rfl (ks := [2, 5]) (.cons rfl (.cons rfl .nil)) (fun v => [(9, .pointer (some ⟨v.1, 0, none⟩)), (10, .pointer (some ⟨v.2.1, 0, none⟩)), (6, .slice x.2.2.1.p (ps.flatMap (·.bs)).length x.2.2.1.cap)]) (fun v w => Mem w0 w No ((v.2.1, .row 27 (cmV (⟨2, a, 0, 0, x.2.2.2.1.flatMap (·.bs)⟩ : Pl.Cm) v.2.2.p (x.2.2.2.1.flatMap (·.bs)).length v.2.2.cap)) :: (v.1, .row 27 (cmV ⟨1, a, b, c, []⟩ none 0 0)) :: (v.2.2.g, v.2.2.b) :: (x.2.2.1.g, x.2.2.1.b) :: (x.2.1.g, x.2.1.b) :: (m1, .row 22 [.int .i64 a, .int .i64 b, .int .i64 c]) :: x.2.2.2.2) ∧ Acc 5 1 v.2.2.p v.2.2.n v.2.2.cap ((x.2.2.2.1.flatMap (·.bs)).flatMap encB) v.2.2.g v.2.2.b) ?_ (fun v w hM => ?_)
      ·
        refine HW_draw (.pure 0 (.pure 1 (.pure 2 (.pure 3 (.pure 4 (.pure 5 (.pure 7 (.pure 8 (.pure 9 (.act3 6 (.act3 10 (.act2 11 (.act 12 (.act 13 (.act 14 .done))) 12 (.act 11 (.act 13 (.act 14 .done)))) 11 (.act2 10 (.act 12 (.act 13 (.act 14 .done))) 12 (.act 10 (.act 13 (.act 14 .done)))) 12 (.act2 10 (.act 11 (.act 13 (.act 14 .done))) 11 (.act 10 (.act 13 (.act 14 .done))))) 11 (.act2 6 (.act2 10 (.act 12 (.act 13 (.act 14 .done))) 12 (.act 10 (.act 13 (.act 14 .done)))) 12 (.act 6 (.act 10 (.act 13 (.act 14 .done))))) 12 (.act2 6 (.act2 10 (.act 11 (.act 13 (.act 14 .done))) 11 (.act 10 (.act 13 (.act 14 .done)))) 11 (.act 6 (.act 10 (.act 13 (.act 14 .done))))))))))))))) No mix (by kernel_rfl) hm fun w hw hm0 hh => ?_
        have hm := hm0
        refine rw_p rfl rfl (y_indexP rfl rfl ar22 (by omega) (by omega)) ?_
        refine rw_p rfl rfl (y_load rfl sc3 (hm0.nd 2 rfl id) rfl) ?_
        refine rw_p rfl rfl (y_indexP rfl rfl ar22 (by omega) (by omega)) ?_
        refine rw_p rfl rfl (y_load rfl sc3 (hm0.nd 2 rfl id) rfl) ?_
        refine rw_p rfl rfl (y_indexP rfl rfl ar22 (by omega) (by omega)) ?_
        refine rw_p rfl rfl (y_load rfl sc3 (hm0.nd 2 rfl id) rfl) ?_
        refine rw_p rfl rfl (y_indexP rfl rfl ar22 (by omega) (by omega)) ?_
        refine rw_p rfl rfl (y_load rfl sc3 (hm0.nd 2 rfl id) rfl) ?_
        refine rw_p rfl rfl (y_v (y_move rfl) (show _ = Value.slice x.2.1.p x.2.2.2.1.length x.2.1.cap by rw [hnl])) ?_
        refine a_three ?_ ?_ ?_
        ·
          refine a_call rfl rfl rfl go10 (c_copy _ _ _ _) fun v w hR => ?_
          obtain ⟨rfl, hE⟩ := hR
          refine ⟨hh.ext hE, ?_⟩
          replace hm := hm.ext hE
          replace hh := hh.ext hE
          refine a_three ?_ ?_ ?_
          ·
            refine a_call rfl rfl rfl go11 (c_literal a _ _ x.2.2.2.1 _ (ha_o.rd hm 1 rfl) (hB.rd hm (by intro e he; simp [he])) (by omega) (by rw [hfl]; omega)) fun v w hR => ?_
            obtain ⟨p_s, n_s, cap_s, g_s, b_s, rfl, ha_s, hmc⟩ := hR
            refine ⟨hh.ext hmc.to, ?_⟩
            replace hh := hh.ext hmc.to
            replace hm := hm.callN hmc
            obtain rfl := ha_s.lenB
            refine a_two ?_ ?_
            ·
              refine a_alloc rfl rfl z27 hm hh fun m2 w hg_m2 hm hh => ?_
              refine a_alloc rfl rfl z27 hm hh fun m3 w hg_m3 hm hh => ?_
              refine a_storeN rfl rfl rfl rfl sz27 rfl hm 1 rfl rfl hh (.inl hg_m2) fun w hm hh => ?_
              refine a_storeN rfl rfl rfl rfl sz27 rfl hm 0 rfl rfl hh (.inl hg_m3) fun w hm hh => ?_
              refine rw_done ?_
              exact gn_vi (m2, m3, ⟨p_s, _, cap_s, g_s, b_s⟩) ⟨(hm.pickT [0, 1, 2, 3, 4, 5] 6 rfl), ha_s⟩ ⟨rfl, rfl, by rw [← hul]; rfl, rfl, rfl, trivial⟩
            ·
              refine a_alloc rfl rfl z27 hm hh fun m2 w hg_m2 hm hh => ?_
              refine a_alloc rfl rfl z27 hm hh fun m3 w hg_m3 hm hh => ?_
              refine a_storeN rfl rfl rfl rfl sz27 rfl hm 0 rfl rfl hh (.inl hg_m3) fun w hm hh => ?_
              refine a_storeN rfl rfl rfl rfl sz27 rfl hm 1 rfl rfl hh (.inl hg_m2) fun w hm hh => ?_
              refine rw_done ?_
              exact gn_vi (m3, m2, ⟨p_s, _, cap_s, g_s, b_s⟩) ⟨(hm.pickT [1, 0, 2, 3, 4, 5] 6 rfl), ha_s⟩ ⟨rfl, rfl, by rw [← hul]; rfl, rfl, rfl, trivial⟩
          ·
            refine a_alloc rfl rfl z27 hm hh fun m2 w hg_m2 hm hh => ?_
            refine a_two ?_ ?_
            ·
              refine a_call rfl rfl rfl go11 (c_literal a _ _ x.2.2.2.1 _ (ha_o.rd hm 2 rfl) (hB.rd hm (by intro e he; simp [he])) (by omega) (by rw [hfl]; omega)) fun v w hR => ?_
              obtain ⟨p_s, n_s, cap_s, g_s, b_s, rfl, ha_s, hmc⟩ := hR
              refine ⟨hh.ext hmc.to, ?_⟩
              replace hh := hh.ext hmc.to
              replace hm := hm.callN hmc
              obtain rfl := ha_s.lenB
              refine a_alloc rfl rfl z27 hm hh fun m3 w hg_m3 hm hh => ?_
              refine a_storeN rfl rfl rfl rfl sz27 rfl hm 2 rfl rfl hh (.inl hg_m2) fun w hm hh => ?_
              refine a_storeN rfl rfl rfl rfl sz27 rfl hm 0 rfl rfl hh (.inl hg_m3) fun w hm hh => ?_
              refine rw_done ?_
              exact gn_vi (m2, m3, ⟨p_s, _, cap_s, g_s, b_s⟩) ⟨(hm.pickT [0, 2, 1, 3, 4, 5] 6 rfl), ha_s⟩ ⟨rfl, rfl, by rw [← hul]; rfl, rfl, rfl, trivial⟩
            ·
              refine a_alloc rfl rfl z27 hm hh fun m3 w hg_m3 hm hh => ?_
              refine a_call rfl rfl rfl go11 (c_literal a _ _ x.2.2.2.1 _ (ha_o.rd hm 3 rfl) (hB.rd hm (by intro e he; simp [he])) (by omega) (by rw [hfl]; omega)) fun v w hR => ?_
              obtain ⟨p_s, n_s, cap_s, g_s, b_s, rfl, ha_s, hmc⟩ := hR
              refine ⟨hh.ext hmc.to, ?_⟩
              replace hh := hh.ext hmc.to
              replace hm := hm.callN hmc
              obtain rfl := ha_s.lenB
              refine a_storeN rfl rfl rfl rfl sz27 rfl hm 2 rfl rfl hh (.inl hg_m2) fun w hm hh => ?_
              refine a_storeN rfl rfl rfl rfl sz27 rfl hm 1 rfl rfl hh (.inl hg_m3) fun w hm hh => ?_
              refine rw_done ?_
              exact gn_vi (m2, m3, ⟨p_s, _, cap_s, g_s, b_s⟩) ⟨(hm.pickT [1, 2, 0, 3, 4, 5] 6 rfl), ha_s⟩ ⟨rfl, rfl, by rw [← hul]; rfl, rfl, rfl, trivial⟩
          ·
            refine a_alloc rfl rfl z27 hm hh fun m2 w hg_m2 hm hh => ?_
            refine a_two ?_ ?_
            ·
              refine a_call rfl rfl rfl go11 (c_literal a _ _ x.2.2.2.1 _ (ha_o.rd hm 2 rfl) (hB.rd hm (by intro e he; simp [he])) (by omega) (by rw [hfl]; omega)) fun v w hR => ?_
              obtain ⟨p_s, n_s, cap_s, g_s, b_s, rfl, ha_s, hmc⟩ := hR
              refine ⟨hh.ext hmc.to, ?_⟩
              replace hh := hh.ext hmc.to
              replace hm := hm.callN hmc
              obtain rfl := ha_s.lenB
              refine a_alloc rfl rfl z27 hm hh fun m3 w hg_m3 hm hh => ?_
              refine a_storeN rfl rfl rfl rfl sz27 rfl hm 0 rfl rfl hh (.inl hg_m3) fun w hm hh => ?_
              refine a_storeN rfl rfl rfl rfl sz27 rfl hm 2 rfl rfl hh (.inl hg_m2) fun w hm hh => ?_
              refine rw_done ?_
              exact gn_vi (m3, m2, ⟨p_s, _, cap_s, g_s, b_s⟩) ⟨(hm.pickT [2, 0, 1, 3, 4, 5] 6 rfl), ha_s⟩ ⟨rfl, rfl, by rw [← hul]; rfl, rfl, rfl, trivial⟩
            ·
              refine a_alloc rfl rfl z27 hm hh fun m3 w hg_m3 hm hh => ?_
              refine a_call rfl rfl rfl go11 (c_literal a _ _ x.2.2.2.1 _ (ha_o.rd hm 3 rfl) (hB.rd hm (by intro e he; simp [he])) (by omega) (by rw [hfl]; omega)) fun v w hR => ?_
              obtain ⟨p_s, n_s, cap_s, g_s, b_s, rfl, ha_s, hmc⟩ := hR
              refine ⟨hh.ext hmc.to, ?_⟩
              replace hh := hh.ext hmc.to
              replace hm := hm.callN hmc
              obtain rfl := ha_s.lenB
              refine a_storeN rfl rfl rfl rfl sz27 rfl hm 1 rfl rfl hh (.inl hg_m3) fun w hm hh => ?_
              refine a_storeN rfl rfl rfl rfl sz27 rfl hm 2 rfl rfl hh (.inl hg_m2) fun w hm hh => ?_
              refine rw_done ?_
              exact gn_vi (m3, m2, ⟨p_s, _, cap_s, g_s, b_s⟩) ⟨(hm.pickT [2, 1, 0, 3, 4, 5] 6 rfl), ha_s⟩ ⟨rfl, rfl, by rw [← hul]; rfl, rfl, rfl, trivial⟩
        ·
          refine a_alloc rfl rfl z27 hm hh fun m2 w hg_m2 hm hh => ?_
          refine a_two ?_ ?_
          ·
            refine a_call rfl rfl rfl go10 (c_copy _ _ _ _) fun v w hR => ?_
            obtain ⟨rfl, hE⟩ := hR
            refine ⟨hh.ext hE, ?_⟩
            replace hm := hm.ext hE
            replace hh := hh.ext hE
            refine a_two ?_ ?_
            ·
              refine a_call rfl rfl rfl go11 (c_literal a _ _ x.2.2.2.1 _ (ha_o.rd hm 2 rfl) (hB.rd hm (by intro e he; simp [he])) (by omega) (by rw [hfl]; omega)) fun v w hR => ?_
              obtain ⟨p_s, n_s, cap_s, g_s, b_s, rfl, ha_s, hmc⟩ := hR
              refine ⟨hh.ext hmc.to, ?_⟩
              replace hh := hh.ext hmc.to
              replace hm := hm.callN hmc
              obtain rfl := ha_s.lenB
              refine a_alloc rfl rfl z27 hm hh fun m3 w hg_m3 hm hh => ?_
              refine a_storeN rfl rfl rfl rfl sz27 rfl hm 2 rfl rfl hh (.inl hg_m2) fun w hm hh => ?_
              refine a_storeN rfl rfl rfl rfl sz27 rfl hm 0 rfl rfl hh (.inl hg_m3) fun w hm hh => ?_
              refine rw_done ?_
              exact gn_vi (m2, m3, ⟨p_s, _, cap_s, g_s, b_s⟩) ⟨(hm.pickT [0, 2, 1, 3, 4, 5] 6 rfl), ha_s⟩ ⟨rfl, rfl, by rw [← hul]; rfl, rfl, rfl, trivial⟩
            ·
              refine a_alloc rfl rfl z27 hm hh fun m3 w hg_m3 hm hh => ?_
              refine a_call rfl rfl rfl go11 (c_literal a _ _ x.2.2.2.1 _ (ha_o.rd hm 3 rfl) (hB.rd hm (by intro e he; simp [he])) (by omega) (by rw [hfl]; omega)) fun v w hR => ?_
              obtain ⟨p_s, n_s, cap_s, g_s, b_s, rfl, ha_s, hmc⟩ := hR
              refine ⟨hh.ext hmc.to, ?_⟩
              replace hh := hh.ext hmc.to
              replace hm := hm.callN hmc
              obtain rfl := ha_s.lenB
              refine a_storeN rfl rfl rfl rfl sz27 rfl hm 2 rfl rfl hh (.inl hg_m2) fun w hm hh => ?_
              refine a_storeN rfl rfl rfl rfl sz27 rfl hm 1 rfl rfl hh (.inl hg_m3) fun w hm hh => ?_
              refine rw_done ?_
              exact gn_vi (m2, m3, ⟨p_s, _, cap_s, g_s, b_s⟩) ⟨(hm.pickT [1, 2, 0, 3, 4, 5] 6 rfl), ha_s⟩ ⟨rfl, rfl, by rw [← hul]; rfl, rfl, rfl, trivial⟩
          ·
            refine a_alloc rfl rfl z27 hm hh fun m3 w hg_m3 hm hh => ?_
            refine a_call rfl rfl rfl go10 (c_copy _ _ _ _) fun v w hR => ?_
            obtain ⟨rfl, hE⟩ := hR
            refine ⟨hh.ext hE, ?_⟩
            replace hm := hm.ext hE
            replace hh := hh.ext hE
            refine a_call rfl rfl rfl go11 (c_literal a _ _ x.2.2.2.1 _ (ha_o.rd hm 3 rfl) (hB.rd hm (by intro e he; simp [he])) (by omega) (by rw [hfl]; omega)) fun v w hR => ?_
            obtain ⟨p_s, n_s, cap_s, g_s, b_s, rfl, ha_s, hmc⟩ := hR
            refine ⟨hh.ext hmc.to, ?_⟩
            replace hh := hh.ext hmc.to
            replace hm := hm.callN hmc
            obtain rfl := ha_s.lenB
            refine a_storeN rfl rfl rfl rfl sz27 rfl hm 2 rfl rfl hh (.inl hg_m2) fun w hm hh => ?_
            refine a_storeN rfl rfl rfl rfl sz27 rfl hm 1 rfl rfl hh (.inl hg_m3) fun w hm hh => ?_
            refine rw_done ?_
            exact gn_vi (m2, m3, ⟨p_s, _, cap_s, g_s, b_s⟩) ⟨(hm.pickT [1, 2, 0, 3, 4, 5] 6 rfl), ha_s⟩ ⟨rfl, rfl, by rw [← hul]; rfl, rfl, rfl, trivial⟩
        ·
          refine a_alloc rfl rfl z27 hm hh fun m2 w hg_m2 hm hh => ?_
          refine a_two ?_ ?_
          ·
            refine a_call rfl rfl rfl go10 (c_copy _ _ _ _) fun v w hR => ?_
            obtain ⟨rfl, hE⟩ := hR
            refine ⟨hh.ext hE, ?_⟩
            replace hm := hm.ext hE
            replace hh := hh.ext hE
            refine a_two ?_ ?_
            ·
              refine a_call rfl rfl rfl go11 (c_literal a _ _ x.2.2.2.1 _ (ha_o.rd hm 2 rfl) (hB.rd hm (by intro e he; simp [he])) (by omega) (by rw [hfl]; omega)) fun v w hR => ?_
              obtain ⟨p_s, n_s, cap_s, g_s, b_s, rfl, ha_s, hmc⟩ := hR
              refine ⟨hh.ext hmc.to, ?_⟩
              replace hh := hh.ext hmc.to
              replace hm := hm.callN hmc
              obtain rfl := ha_s.lenB
              refine a_alloc rfl rfl z27 hm hh fun m3 w hg_m3 hm hh => ?_
              refine a_storeN rfl rfl rfl rfl sz27 rfl hm 0 rfl rfl hh (.inl hg_m3) fun w hm hh => ?_
              refine a_storeN rfl rfl rfl rfl sz27 rfl hm 2 rfl rfl hh (.inl hg_m2) fun w hm hh => ?_
              refine rw_done ?_
              exact gn_vi (m3, m2, ⟨p_s, _, cap_s, g_s, b_s⟩) ⟨(hm.pickT [2, 0, 1, 3, 4, 5] 6 rfl), ha_s⟩ ⟨rfl, rfl, by rw [← hul]; rfl, rfl, rfl, trivial⟩
            ·
              refine a_alloc rfl rfl z27 hm hh fun m3 w hg_m3 hm hh => ?_
              refine a_call rfl rfl rfl go11 (c_literal a _ _ x.2.2.2.1 _ (ha_o.rd hm 3 rfl) (hB.rd hm (by intro e he; simp [he])) (by omega) (by rw [hfl]; omega)) fun v w hR => ?_
              obtain ⟨p_s, n_s, cap_s, g_s, b_s, rfl, ha_s, hmc⟩ := hR
              refine ⟨hh.ext hmc.to, ?_⟩
              replace hh := hh.ext hmc.to
              replace hm := hm.callN hmc
              obtain rfl := ha_s.lenB
              refine a_storeN rfl rfl rfl rfl sz27 rfl hm 1 rfl rfl hh (.inl hg_m3) fun w hm hh => ?_
              refine a_storeN rfl rfl rfl rfl sz27 rfl hm 2 rfl rfl hh (.inl hg_m2) fun w hm hh => ?_
              refine rw_done ?_
              exact gn_vi (m3, m2, ⟨p_s, _, cap_s, g_s, b_s⟩) ⟨(hm.pickT [2, 1, 0, 3, 4, 5] 6 rfl), ha_s⟩ ⟨rfl, rfl, by rw [← hul]; rfl, rfl, rfl, trivial⟩
          ·
            refine a_alloc rfl rfl z27 hm hh fun m3 w hg_m3 hm hh => ?_
            refine a_call rfl rfl rfl go10 (c_copy _ _ _ _) fun v w hR => ?_
            obtain ⟨rfl, hE⟩ := hR
            refine ⟨hh.ext hE, ?_⟩
            replace hm := hm.ext hE
            replace hh := hh.ext hE
            refine a_call rfl rfl rfl go11 (c_literal a _ _ x.2.2.2.1 _ (ha_o.rd hm 3 rfl) (hB.rd hm (by intro e he; simp [he])) (by omega) (by rw [hfl]; omega)) fun v w hR => ?_
            obtain ⟨p_s, n_s, cap_s, g_s, b_s, rfl, ha_s, hmc⟩ := hR
            refine ⟨hh.ext hmc.to, ?_⟩
            replace hh := hh.ext hmc.to
            replace hm := hm.callN hmc
            obtain rfl := ha_s.lenB
            refine a_storeN rfl rfl rfl rfl sz27 rfl hm 1 rfl rfl hh (.inl hg_m3) fun w hm hh => ?_
            refine a_storeN rfl rfl rfl rfl sz27 rfl hm 2 rfl rfl hh (.inl hg_m2) fun w hm hh => ?_
            refine rw_done ?_
            exact gn_vi (m3, m2, ⟨p_s, _, cap_s, g_s, b_s⟩) ⟨(hm.pickT [2, 1, 0, 3, 4, 5] 6 rfl), ha_s⟩ ⟨rfl, rfl, by rw [← hul]; rfl, rfl, rfl, trivial⟩
      ·
        obtain ⟨hm, ha_s⟩ := hM
        generalize x.2.1.p = p_o at *
        refine HW_seq rfl ?_
        refine HW_seq rfl ?_
        refine HW_text (.pure 0 (.pure 1 (.pure 2 .done))) (by kernel_rfl) ?_
        refine rw_p rfl rfl (y_move rfl) ?_
        refine rw_p rfl rfl (y_len rfl rfl sl23) ?_
        refine rw_p rfl rfl (y_move rfl) ?_
        refine rw_done ?_
        refine gn_sq ?_
        refine HW_block rfl ?_
        refine HW_loopK (ι := Nat × List (Nat × Blk)) rfl (ks := [2, 6, 9, 10, 49, 50]) (.cons rfl (.cons rfl (.cons rfl (.cons rfl (.cons rfl (.cons rfl .nil)))))) (fun y => [(51, .int .i64 y.1)]) (fun y w => Mem w0 w No ((v.2.1, .row 27 (cmV (⟨2, a, 0, 0, x.2.2.2.1.flatMap (·.bs)⟩ : Pl.Cm) v.2.2.p (x.2.2.2.1.flatMap (·.bs)).length v.2.2.cap)) :: (v.1, .row 27 (cmV ⟨1, a, b, c, []⟩ none 0 0)) :: (v.2.2.g, v.2.2.b) :: (x.2.2.1.g, x.2.2.1.b) :: (x.2.1.g, x.2.1.b) :: (m1, .row 22 [.int .i64 a, .int .i64 b, .int .i64 c]) :: y.2) ∧ (∃ D, y.2 = x.2.2.2.2.drop y.1 ++ D) ∧ y.1 ≤ x.2.2.2.1.length) (fun y => x.2.2.2.1.length - y.1) (0, x.2.2.2.2) (⟨(hm.pickT [0, 1, 2, 3, 4, 5] 6 rfl), ⟨[], by simp⟩, Nat.zero_le _⟩) ⟨rfl, trivial⟩ (fun y w hM => ?_)
        obtain ⟨hm, hD, hyl⟩ := hM
        refine HW_seq rfl ?_
        refine HW_text (.pure 0 .done) (by kernel_rfl) ?_
        refine rw_p rfl rfl (y_lt rfl rfl) ?_
        refine rw_done ?_
        refine gn_sq ?_
        refine HW_seq rfl ?_
        refine HW_cond rfl rfl (fun hc3 => ?_) (fun hc3 => ?_)
        ·
          simp only [decide_eq_true_eq] at hc3
          obtain ⟨⟨p_e, cap_e, bs_e⟩, hi⟩ : ∃ s_, x.2.2.2.1[y.1]? = some s_ := ⟨_, List.getElem?_eq_getElem (by omega)⟩
          obtain ⟨g_e, b_e, R, hRe, ha_e, hD2⟩ := hB.step hD hi
          simp only at ha_e
          have hbe := len_flat hi
          rw [hfl] at hbe
          simp only at hbe
          obtain ⟨qb, qo, rfl⟩ := (ha_o.rd hm 4 rfl).atI encS_len (by decide) hi
          refine HW_skip rfl ?_
          refine gn_sq ?_
          refine HW_seq rfl ?_
          refine HW_block rfl ?_
          refine HW_seq rfl ?_
          refine HW_text (.pure 0 (.pure 1 (.pure 2 .done))) (by kernel_rfl) ?_
          refine rw_p rfl rfl (y_index rfl rfl sl23 rfl (by omega) (by omega)) ?_
          refine rw_p rfl rfl (y_el1 rfl sc25 (ha_o.rd hm 4 rfl).nt encS_len hi rfl) ?_
          rw [hRe] at hm
          replace hm := hm.pull 6 rfl
          refine rw_p rfl rfl (y_assign rfl) ?_
          refine rw_done ?_
          refine gn_sq ?_
          refine HW_seq rfl ?_
          refine HW_text (.pure 0 (.pure 1 (.pure 2 .done))) (by kernel_rfl) ?_
          refine rw_p rfl rfl (y_move rfl) ?_
          refine rw_p rfl rfl (y_len rfl rfl sl25) ?_
          refine rw_p rfl rfl (y_move rfl) ?_
          refine rw_done ?_
          refine gn_sq ?_
          refine HW_block rfl ?_
          refine HW_loopK (ι := Nat × Blk × List UInt8) rfl (ks := [2, 6, 9, 10, 12, 49, 50, 51, 56]) (.cons rfl (.cons rfl (.cons rfl (.cons rfl (.cons rfl (.cons rfl (.cons rfl (.cons rfl (.cons rfl .nil))))))))) (fun z => [(57, .int .i64 z.1)]) (fun z w => Mem w0 w No ((g_e, z.2.1) :: (v.2.1, .row 27 (cmV (⟨2, a, 0, 0, x.2.2.2.1.flatMap (·.bs)⟩ : Pl.Cm) v.2.2.p (x.2.2.2.1.flatMap (·.bs)).length v.2.2.cap)) :: (v.1, .row 27 (cmV ⟨1, a, b, c, []⟩ none 0 0)) :: (v.2.2.g, v.2.2.b) :: (x.2.2.1.g, x.2.2.1.b) :: (x.2.1.g, x.2.1.b) :: (m1, .row 22 [.int .i64 a, .int .i64 b, .int .i64 c]) :: R) ∧ Acc 5 1 p_e bs_e.length cap_e (z.2.2.flatMap encB) g_e z.2.1 ∧ z.2.2.length = bs_e.length ∧ z.1 ≤ bs_e.length) (fun z => bs_e.length - z.1) (0, b_e, bs_e) (⟨(hm.pickT [0, 1, 2, 3, 4, 5, 6] 7 rfl), ha_e, rfl, Nat.zero_le _⟩) ⟨rfl, trivial⟩ (fun z w hM => ?_)
          obtain ⟨hm, ha_e, hzl, hzk⟩ := hM
          refine HW_seq rfl ?_
          refine HW_text (.pure 0 .done) (by kernel_rfl) ?_
          refine rw_p rfl rfl (y_lt rfl rfl) ?_
          refine rw_done ?_
          refine gn_sq ?_
          refine HW_seq rfl ?_
          refine HW_cond rfl rfl (fun hc4 => ?_) (fun hc4 => ?_)
          ·
            simp only [decide_eq_true_eq] at hc4
            obtain ⟨y8, hy⟩ : ∃ y_, z.2.2[z.1]? = some y_ := ⟨_, List.getElem?_eq_getElem (by omega)⟩
            obtain rfl := ha_e.ptr (by omega)
            refine HW_skip rfl ?_
            refine gn_sq ?_
            refine HW_seq rfl ?_
            refine HW_block rfl ?_
            refine HW_seq rfl ?_
            refine HW_text (.pure 0 (.pure 1 .done)) (by kernel_rfl) ?_
            refine rw_p rfl rfl (y_move rfl) ?_
            refine rw_p rfl rfl (y_assign rfl) ?_
            refine rw_done ?_
            refine gn_sq ?_
            refine HW_text (.pure 0 (.pure 1 (.pure 2 (.pure 3 (.pure 4 (.pure 5 (.act 6 .done))))))) (by kernel_rfl) ?_
            refine rw_p rfl rfl (y_move rfl) ?_
            refine rw_p rfl rfl (y_move rfl) ?_
            refine rw_p rfl rfl (y_index rfl rfl sl25 rfl (by omega) (by omega)) ?_
            refine rw_p rfl rfl (y_el1 rfl sc5 (ha_e.rd hm 0 rfl).nt encB_len hy rfl) ?_
            refine rw_p rfl rfl (y_add rfl rfl (u8inc y8)) ?_
            refine rw_p rfl rfl (y_index rfl rfl sl25 rfl (by omega) (by omega)) ?_
            refine a_storeE rfl rfl rfl rfl sz5 rfl rfl ha_e (by omega) hm 0 rfl fun b_e w ha_e hm => ?_
            replace ha_e := ha_e.to (show _ = (z.2.2.set z.1 (y8 + 1)).flatMap encB from updB _ _ _)
            refine rw_done ?_
            refine gn_bl ?_
            refine gn_sq ?_
            refine HW_text (.pure 0 (.pure 1 .done)) (by kernel_rfl) ?_
            refine rw_p rfl rfl (y_add rfl rfl (i64w (by omega) (by omega))) ?_
            refine rw_p rfl rfl (y_move rfl) ?_
            refine rw_done ?_
            refine next (z.1 + 1, b_e, z.2.2.set z.1 (y8 + 1)) (by simp only; omega) ⟨(hm.pickT [0, 1, 2, 3, 4, 5, 6] 7 rfl), ha_e, by simp [hzl], by simp only; omega⟩ ⟨nx z.1, rfl, rfl, rfl, rfl, rfl, rfl, rfl, rfl, rfl, trivial⟩
          ·
            simp only [decide_eq_false_iff_not] at hc4
            refine HW_exit rfl ?_
            refine gx_sq (gx_lp ?_)
            refine gx_here ?_
            refine gn_bl ?_
            refine gn_sq ?_
            refine HW_text (.pure 0 (.pure 1 .done)) (by kernel_rfl) ?_
            refine rw_p rfl rfl (y_add rfl rfl (i64w (by omega) (by omega))) ?_
            replace hm := hm.stow 0 rfl
            refine rw_p rfl rfl (y_move rfl) ?_
            refine rw_done ?_
            refine next (y.1 + 1, R ++ [(g_e, z.2.1)]) (by simp only; omega) ⟨(hm.pickT [0, 1, 2, 3, 4, 5] 6 rfl), hD2 _, by simp only; omega⟩ ⟨nx y.1, rfl, rfl, rfl, rfl, rfl, rfl, trivial⟩
        ·
          simp only [decide_eq_false_iff_not] at hc3
          refine HW_exit rfl ?_
          refine gx_sq (gx_lp ?_)
          refine gx_here ?_
          refine gn_sq ?_
          refine HW_seq rfl ?_
          refine HW_text (.act 0 (.pure 1 (.pure 2 (.pure 3 (.pure 4 (.pure 5 (.pure 6 (.pure 7 (.pure 8 (.pure 9 (.act 10 (.pure 11 (.pure 12 (.pure 13 (.pure 14 (.pure 15 (.pure 16 (.pure 17 (.act 18 (.pure 19 (.pure 20 .done))))))))))))))))))))) (by kernel_rfl) ?_
          refine a_call rfl rfl rfl go9 (law_alive _) fun v w hR => ?_
          obtain ⟨rfl, hE⟩ := hR
          refine ⟨trivial, ?_⟩
          replace hm := hm.ext hE
          refine rw_p rfl rfl (y_move rfl) ?_
          refine rw_p rfl rfl (y_loadA (s := 5) (vs := [_, _, _, _, _]) rfl ag27 (hm.nt 1 rfl) rfl) ?_
          refine rw_p rfl rfl (y_indexP rfl rfl ar22 (by omega) (by omega)) ?_
          refine rw_p rfl rfl (y_load rfl sc3 (hm.nt 5 rfl) rfl) ?_
          refine rw_p rfl rfl (y_indexP rfl rfl ar22 (by omega) (by omega)) ?_
          refine rw_p rfl rfl (y_load rfl sc3 (hm.nt 5 rfl) rfl) ?_
          refine rw_p rfl rfl (y_indexP rfl rfl ar22 (by omega) (by omega)) ?_
          refine rw_p rfl rfl (y_load rfl sc3 (hm.nt 5 rfl) rfl) ?_
          refine rw_p rfl rfl (y_build (cs := [_, _, _, _, _]) z27 ft27 rfl rfl rfl rfl rfl) ?_
          refine a_call rfl rfl rfl go12 (C.as (v := .bool true) (r4_same ⟨1, a, b, c, []⟩ ⟨1, a, b, c, []⟩ none none 0 0 _ rfl rfl) (congrArg Value.bool (Pl.csame_refl _))) fun v w hR => ?_
          obtain ⟨rfl, hE⟩ := hR
          refine ⟨trivial, ?_⟩
          replace hm := hm.ext hE
          refine rw_p rfl rfl (y_pickT rfl rfl) ?_
          refine rw_p rfl rfl (y_move rfl) ?_
          refine rw_p rfl rfl (y_loadA (s := 5) (vs := [_, _, _, _, _]) rfl ag27 (hm.nt 0 rfl) rfl) ?_
          refine rw_p rfl rfl (y_indexP rfl rfl ar22 (by omega) (by omega)) ?_
          refine rw_p rfl rfl (y_load rfl sc3 (hm.nt 5 rfl) rfl) ?_
          refine rw_p rfl rfl (y_move rfl) ?_
          refine rw_p rfl rfl (y_build (cs := [_, _, _, _, _]) z27 ft27 rfl rfl rfl rfl rfl) ?_
          have t1 := r4_same (⟨2, a, 0, 0, x.2.2.2.1.flatMap (·.bs)⟩ : Pl.Cm) ⟨2, a, 0, 0, ps.flatMap (·.bs)⟩ v.2.2.p x.2.2.1.p v.2.2.cap x.2.2.1.cap _ (ha_s.rd hm 2 rfl) (ha_u.rd hm 3 rfl)
          refine a_call rfl rfl rfl go12 (C.as (v := .bool true) t1 (congrArg Value.bool (by rw [hfl]; exact Pl.csame_refl _))) fun v w hR => ?_
          obtain ⟨rfl, hE⟩ := hR
          refine ⟨trivial, ?_⟩
          replace hm := hm.ext hE
          refine rw_p rfl rfl (y_pickT rfl rfl) ?_
          refine rw_p rfl rfl (y_assign rfl) ?_
          refine rw_done ?_
          refine gn_sq ?_
          refine HW_ret rfl ?_
          refine toR (fin hret rfl (.tmp rfl .nil) .one ?_)
          exact ⟨rfl, hm.to⟩

end Go.Proofs.Ytabilcmhjnpjhaa
