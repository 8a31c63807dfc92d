/- Contracts of functions of the program: what each returns. Conditions: the hypotheses of each theorem. -/
import Derived.Test.YtcngaknlagocdaaDlD
set_option linter.unusedVariables false
set_option linter.unusedSimpArgs false
namespace Go.Proofs.Ytcngaknlagocdaa
open Go Go.Cx

theorem fo74_1 : fldO Try.prog 74 1 = some 1 := by kernel_rfl
theorem ft74 : fldT Try.prog 74 = some [(0, 1), (1, 1)] := by kernel_rfl
theorem ft77 : fldT Try.prog 77 = some [(0, 1), (1, 1)] := by kernel_rfl
theorem go32 : isGo Try.prog 32 = true := by kernel_rfl
theorem sc46 : scal Try.prog 46 = true := by kernel_rfl
theorem sl46 : slcO Try.prog 46 = some (77, 2, 16) := by kernel_rfl
theorem sz46 : szO Try.prog 46 = some 1 := by kernel_rfl
theorem z74 : zer Try.prog 74 = some [.int .i64 0, .slice none 0 0] := by kernel_rfl
theorem z77 : zer Try.prog 77 = some [.int .i64 0, .int .i64 0] := by kernel_rfl
theorem ag77 : aggS Try.prog 77 = some 2 := by kernel_rfl
theorem fo77_0 : fldO Try.prog 77 0 = some 0 := by kernel_rfl
theorem fo77_1 : fldO Try.prog 77 1 = some 1 := by kernel_rfl
theorem go49 : isGo Try.prog 49 = true := by kernel_rfl
theorem go50 : isGo Try.prog 50 = true := by kernel_rfl

set_option maxHeartbeats 800000 in
theorem r12_graph (q : Option Addr) (cq : Nat) (cs : List CmdV) (w0 : World) (hq : Rd w0 q (cs.flatMap encC)) (hl : cs.length ≤ 40) (hok : ∀ c ∈ cs, Pl.ccheck c.cm = 0) : C Try.prog 49 [.slice q cs.length cq] w0 fun v w' => ∃ (m : Nat) (p : Option Addr) (n9 cap g : Nat) (b : Blk) (es : List (Int × Int)), v = .pointer (some ⟨m, 0, none⟩) ∧ Acc 77 2 p n9 cap (es.flatMap encE) g b ∧ n9 = es.length ∧ (∀ e ∈ es, 0 ≤ e.1 ∧ e.1 < (cs.length : Int) ∧ 0 ≤ e.2 ∧ e.2 < (cs.length : Int)) ∧ (∀ (i j : Nat) ci cj,  i ≠ j → cs[i]? = some ci → cs[j]? = some cj → 0 < Pl.rds ci.cm cj.cm → ((i : Int), (j : Int)) ∈ es) ∧ es.length ≤ 1600 ∧ Mem w0 w' No [(g, b), (m, .row 74 [.int .i64 (cs.length : Int), .slice p n9 cap])] := by
  refine C_of Try.func49 rfl rfl rfl fun κ hret hnorm => ?_
  have hm := Mem.start w0
  refine HW_seq rfl ?_
  refine HW_text (.pure 0 .done) (by kernel_rfl) ?_
  refine rw_p rfl rfl (y_assign rfl) ?_
  refine rw_done ?_
  refine gn_sq ?_
  refine HW_seq rfl ?_
  refine HW_text (.pure 0 (.pure 1 (.pure 2 (.act 3 (.pure 4 .done))))) (by kernel_rfl) ?_
  refine rw_p rfl rfl (y_move rfl) ?_
  refine rw_p rfl rfl (y_len rfl rfl sl27) ?_
  refine rw_p rfl rfl (y_build (cs := [_, _]) z74 ft74 rfl rfl rfl rfl rfl) ?_
  refine a_box rfl rfl rfl rfl hm trivial fun m1 w hg_m1 hm hh => ?_
  replace hm := hm.gapIn
  have ha_o := Acc.nil 77 2 none 0
  refine rw_p rfl rfl (y_assign rfl) ?_
  refine rw_done ?_
  refine gn_sq ?_
  refine HW_seq rfl ?_
  refine HW_seq rfl ?_
  refine HW_text (.pure 0 .done) (by kernel_rfl) ?_
  refine rw_p rfl rfl (y_assign rfl) ?_
  refine rw_done ?_
  refine gn_sq ?_
  refine HW_block rfl ?_
  refine HW_loopK (ι := Nat × Ow × List (Int × Int)) rfl (ks := [0, 2, 3]) (.cons rfl (.cons rfl (.cons rfl .nil))) (fun x => [(4, .int .i64 x.1)]) (fun x w => Mem w0 w No [(x.2.1.g, x.2.1.b), (m1, .row 74 [.int .i64 (cs.length : Int), .slice x.2.1.p x.2.1.n x.2.1.cap])] ∧ Acc 77 2 x.2.1.p x.2.1.n x.2.1.cap (x.2.2.flatMap encE) x.2.1.g x.2.1.b ∧ x.1 ≤ cs.length ∧ x.2.1.n = x.2.2.length ∧ (∀ e ∈ x.2.2, 0 ≤ e.1 ∧ e.1 < (cs.length : Int) ∧ 0 ≤ e.2 ∧ e.2 < (cs.length : Int)) ∧ (∀ (i j : Nat) ci cj, i < x.1 → i ≠ j → cs[i]? = some ci → cs[j]? = some cj → 0 < Pl.rds ci.cm cj.cm → ((i : Int), (j : Int)) ∈ x.2.2) ∧ x.2.2.length ≤ 40 * x.1) (fun x => cs.length - x.1) (0, ⟨none, 0, 0, 0, .gap⟩, []) (⟨(hm.pick [0, 1] rfl), ha_o, Nat.zero_le _, rfl, by simp, fun _ _ _ _ h => absurd h (Nat.not_lt_zero _), by simp⟩) ⟨rfl, trivial⟩ (fun x w hM => ?_)
  obtain ⟨hm, ha_o, hk, hn9, hrng, hhas, hlen⟩ := hM
  refine HW_seq rfl ?_
  refine HW_seq rfl ?_
  refine HW_text (.pure 0 (.pure 1 (.pure 2 (.pure 3 .done)))) (by kernel_rfl) ?_
  refine rw_p rfl rfl (y_move rfl) ?_
  refine rw_p rfl rfl (y_move rfl) ?_
  refine rw_p rfl rfl (y_len rfl rfl sl27) ?_
  refine rw_p rfl rfl (y_lt rfl rfl) ?_
  refine rw_done ?_
  refine gn_sq ?_
  refine HW_cond rfl rfl (fun hc0 => ?_) (fun hc0 => ?_)
  ·
    simp only [decide_eq_true_eq] at hc0
    obtain ⟨c, hi⟩ : ∃ y_, cs[x.1]? = some y_ := ⟨_, List.getElem?_eq_getElem (by omega)⟩
    obtain ⟨qb, qo, rfl⟩ := hq.atI encC_len (by decide) hi
    have hcc := hok c (List.mem_of_getElem? hi)
    refine HW_skip rfl ?_
    refine gn_sq ?_
    refine HW_seq rfl ?_
    refine HW_block rfl ?_
    refine HW_seq rfl ?_
    refine HW_text (.pure 0 .done) (by kernel_rfl) ?_
    refine rw_p rfl rfl (y_assign rfl) ?_
    refine rw_done ?_
    refine gn_sq ?_
    refine HW_block rfl ?_
    refine HW_loopK (ι := Nat × Ow × List (Int × Int)) rfl (ks := [0, 2, 3, 4]) (.cons rfl (.cons rfl (.cons rfl (.cons rfl .nil)))) (fun y => [(5, .int .i64 y.1)]) (fun y w => Mem w0 w No [(y.2.1.g, y.2.1.b), (m1, .row 74 [.int .i64 (cs.length : Int), .slice y.2.1.p y.2.1.n y.2.1.cap])] ∧ Acc 77 2 y.2.1.p y.2.1.n y.2.1.cap (y.2.2.flatMap encE) y.2.1.g y.2.1.b ∧ y.1 ≤ cs.length ∧ y.2.1.n = y.2.2.length ∧ (∀ e ∈ y.2.2, 0 ≤ e.1 ∧ e.1 < (cs.length : Int) ∧ 0 ≤ e.2 ∧ e.2 < (cs.length : Int)) ∧ (∀ (i j : Nat) ci cj, i < x.1 → i ≠ j → cs[i]? = some ci → cs[j]? = some cj → 0 < Pl.rds ci.cm cj.cm → ((i : Int), (j : Int)) ∈ y.2.2) ∧ (∀ (j : Nat) cj, j < y.1 → x.1 ≠ j → cs[j]? = some cj → 0 < Pl.rds c.cm cj.cm → ((x.1 : Int), (j : Int)) ∈ y.2.2) ∧ y.2.2.length ≤ 40 * x.1 + y.1) (fun y => cs.length - y.1) (0, x.2.1, x.2.2) (⟨(hm.pick [0, 1] rfl), ha_o, Nat.zero_le _, hn9, hrng, hhas, fun _ _ h => absurd h (Nat.not_lt_zero _), by simp only; omega⟩) ⟨rfl, trivial⟩ (fun y w hM => ?_)
    obtain ⟨hm, ha_o, hy0, hn9, hrng, hhas, hin, hlen⟩ := hM
    refine HW_seq rfl ?_
    refine HW_seq rfl ?_
    refine HW_text (.pure 0 (.pure 1 (.pure 2 (.pure 3 .done)))) (by kernel_rfl) ?_
    refine rw_p rfl rfl (y_move rfl) ?_
    refine rw_p rfl rfl (y_move rfl) ?_
    refine rw_p rfl rfl (y_len rfl rfl sl27) ?_
    refine rw_p rfl rfl (y_lt rfl rfl) ?_
    refine rw_done ?_
    refine gn_sq ?_
    refine HW_cond rfl rfl (fun hc1 => ?_) (fun hc1 => ?_)
    ·
      simp only [decide_eq_true_eq] at hc1
      obtain ⟨d, hj⟩ : ∃ y_, cs[y.1]? = some y_ := ⟨_, List.getElem?_eq_getElem (by omega)⟩
      have hcd := hok d (List.mem_of_getElem? hj)
      refine HW_skip rfl ?_
      refine gn_sq ?_
      refine HW_seq rfl ?_
      refine HW_block rfl ?_
      refine HW_seq rfl ?_
      refine HW_draw (.pure 0 (.pure 1 (.pure 2 (.pure 3 (.pure 4 (.pure 5 (.pure 6 (.pure 7 (.pure 8 (.pure 9 (.pure 10 (.pure 11 (.cut (.act 12 (.pure 13 (.pure 14 .done)))))))))))))))) No mix (by kernel_rfl) hm fun w hw hm0 hh => ?_
      have hm := hm0
      refine rw_p rfl rfl (y_move rfl) ?_
      refine rw_p rfl rfl (y_move rfl) ?_
      refine rw_p rfl rfl (y_ne rfl rfl) ?_
      refine rw_p rfl rfl (y_move rfl) ?_
      refine rw_g rfl rfl rfl (fun hc => (y_move rfl)) ?_
      refine rw_g rfl rfl rfl (fun hc => (y_move rfl)) ?_
      refine rw_g rfl rfl rfl (fun hc => (y_index (gx hc rfl) (gx hc rfl) sl27 rfl (by omega) (by omega))) ?_
      refine rw_g rfl rfl rfl (fun hc => (y_elA (gx hc rfl) ag24 (hq.ext0 hm0.to).nd encC_len hi)) ?_
      refine rw_g rfl rfl rfl (fun hc => (y_move rfl)) ?_
      refine rw_g rfl rfl rfl (fun hc => (y_move rfl)) ?_
      refine rw_g rfl rfl rfl (fun hc => (y_index (gx hc rfl) (gx hc rfl) sl27 rfl (by omega) (by omega))) ?_
      refine rw_g rfl rfl rfl (fun hc => (y_elA (gx hc rfl) ag24 (hq.ext0 hm0.to).nd encC_len hj)) ?_
      refine a_cut ?_
      refine a_callG rfl rfl rfl (fun hc => (evs_c (gx hc rfl) (evs_c (gx hc rfl) evs_n))) go32 (fun hc => (r12_reads c.cm c.d.p c.d.cap d.cm d.d.p d.d.cap _ hcc hcd)) trivial fun w hE hh => ?_
      replace hm := hm.ext hE
      refine rw_g rfl rfl rfl (fun hc => (y_gt (gx hc rfl) rfl)) ?_
      refine rw_p rfl rfl (y_and rfl rfl rfl) ?_
      refine rw_done ?_
      refine gn_sq ?_
      refine HW_cond rfl rfl (fun hc2 => ?_) (fun hc2 => ?_)
      ·
        simp only [Bool.and_eq_true, Bool.or_eq_true, Bool.and_eq_false_iff, Bool.or_eq_false_iff, Bool.not_eq_true', Bool.not_eq_false', decide_eq_true_eq, decide_eq_false_iff_not] at hc2
        refine HW_text (.pure 0 (.pure 1 (.pure 2 (.pure 3 (.pure 4 (.pure 5 (.pure 6 (.pure 7 (.act 8 (.act 9 (.pure 10 (.pure 11 (.act 12 .done))))))))))))) (by kernel_rfl) ?_
        refine rw_p rfl rfl (y_move rfl) ?_
        refine rw_p rfl rfl (y_move rfl) ?_
        refine rw_p rfl rfl (y_nil rfl) ?_
        refine rw_p rfl rfl (y_fieldAddr rfl fo74_1) ?_
        refine rw_p rfl rfl (y_load rfl sc46 (hm.nt 1 rfl) rfl) ?_
        refine rw_p rfl rfl (y_move rfl) ?_
        refine rw_p rfl rfl (y_move rfl) ?_
        refine rw_p rfl rfl (y_build (cs := [_, _]) z77 ft77 rfl rfl rfl rfl rfl) ?_
        refine a_buildSlice (l := [_, _]) rfl rfl sl46 z77 rfl rfl rfl rfl rfl rfl rfl hm trivial fun m2 w hg_m2 hm hh => ?_
        refine a_append rfl rfl rfl rfl rfl rfl sl46 sl46 z77 rfl rfl (Rd.row0 (hm.get (k := 0) rfl)) rfl ha_o hm 1 rfl (by omega) (by omega) fun p_o cap_o g_o b_o w ha_o hm => ?_
        refine rw_p rfl rfl (y_nil rfl) ?_
        refine rw_p rfl rfl (y_fieldAddr rfl fo74_1) ?_
        refine a_store rfl rfl rfl rfl sz46 rfl hm 2 rfl rfl fun w hm => ?_
        refine rw_done ?_
        refine gn_bl ?_
        refine gn_sq ?_
        refine HW_text (.pure 0 (.pure 1 (.pure 2 .done))) (by kernel_rfl) ?_
        refine rw_p rfl rfl (y_move rfl) ?_
        refine rw_p rfl rfl (y_add rfl rfl (i64w (by omega) (by omega))) ?_
        refine rw_p rfl rfl (y_assign rfl) ?_
        refine rw_done ?_
        refine next (y.1 + 1, ⟨p_o, _, cap_o, g_o, b_o⟩, y.2.2 ++ [((x.1 : Int), (y.1 : Int))]) (by simp only; omega) ⟨(hm.pick [1, 2] rfl), ha_o.to (by simp only [List.flatMap_append]; rfl), by simp only; omega, by simp only [List.length_append, List.length_singleton]; omega, ?_, ?_, ?_, by simp only [List.length_append, List.length_singleton]; omega⟩ ⟨nx y.1, rfl, rfl, rfl, rfl, trivial⟩
        · intro e he
          rcases List.mem_append.1 he with h | h
          · exact hrng e h
          · rw [List.mem_singleton.1 h]; simp only; omega
        · exact fun i j ci cj hix hij hci hcj hr => List.mem_append_left _ (hhas i j ci cj hix hij hci hcj hr)
        · intro j cj hjy hne hcj hr
          rcases Nat.lt_or_ge j y.1 with h | h
          · exact List.mem_append_left _ (hin j cj h hne hcj hr)
          · obtain rfl : j = y.1 := by simp only at hjy; omega
            exact List.mem_append_right _ (by simp)
      ·
        simp only [Bool.and_eq_true, Bool.or_eq_true, Bool.and_eq_false_iff, Bool.or_eq_false_iff, Bool.not_eq_true', Bool.not_eq_false', decide_eq_true_eq, decide_eq_false_iff_not] at hc2
        refine HW_skip rfl ?_
        refine gn_bl ?_
        refine gn_sq ?_
        refine HW_text (.pure 0 (.pure 1 (.pure 2 .done))) (by kernel_rfl) ?_
        refine rw_p rfl rfl (y_move rfl) ?_
        refine rw_p rfl rfl (y_add rfl rfl (i64w (by omega) (by omega))) ?_
        refine rw_p rfl rfl (y_assign rfl) ?_
        refine rw_done ?_
        refine next (y.1 + 1, y.2.1, y.2.2) (by simp only; omega) ⟨(hm.pick [0, 1] rfl), ha_o, by simp only; omega, by simp only; omega, ?_, ?_, ?_, by simp only; omega⟩ ⟨nx y.1, rfl, rfl, rfl, rfl, trivial⟩
        · exact hrng
        · exact hhas
        · intro j cj hjy hne hcj hr
          rcases Nat.lt_or_ge j y.1 with h | h
          · exact hin j cj h hne hcj hr
          · obtain rfl : j = y.1 := by simp only at hjy; omega
            rw [hj] at hcj; cases hcj; omega
    ·
      simp only [decide_eq_false_iff_not] at hc1
      refine HW_exit rfl ?_
      refine gx_sq (gx_lp ?_)
      refine gx_here ?_
      refine gn_bl ?_
      refine gn_sq ?_
      refine HW_text (.pure 0 (.pure 1 (.pure 2 .done))) (by kernel_rfl) ?_
      refine rw_p rfl rfl (y_move rfl) ?_
      refine rw_p rfl rfl (y_add rfl rfl (i64w (by omega) (by omega))) ?_
      refine rw_p rfl rfl (y_assign rfl) ?_
      refine rw_done ?_
      refine next (x.1 + 1, y.2.1, y.2.2) (by simp only; omega) ⟨(hm.pick [0, 1] rfl), ha_o, by simp only; omega, by simp only; omega, hrng, ?_, by simp only; omega⟩ ⟨nx x.1, rfl, rfl, rfl, trivial⟩
      intro i j ci cj hix hij hci hcj hr
      rcases Nat.lt_or_ge i x.1 with h | h
      · exact hhas i j ci cj h hij hci hcj hr
      · obtain rfl : i = x.1 := by simp only at hix; omega
        rw [hi] at hci; cases hci
        exact hin j cj (by have := (List.getElem?_eq_some_iff.1 hcj).1; omega) hij hcj hr
  ·
    simp only [decide_eq_false_iff_not] at hc0
    have hke : x.1 = cs.length := by omega
    refine HW_exit rfl ?_
    refine gx_sq (gx_lp ?_)
    refine gx_here ?_
    refine gn_sq ?_
    refine HW_seq rfl ?_
    refine HW_text (.pure 0 (.pure 1 .done)) (by kernel_rfl) ?_
    refine rw_p rfl rfl (y_move rfl) ?_
    refine rw_p rfl rfl (y_assign rfl) ?_
    refine rw_done ?_
    refine gn_sq ?_
    refine HW_ret rfl ?_
    refine toR (fin hret rfl (.tmp rfl .nil) .one ?_)
    exact ⟨m1, _, _, _, _, _, x.2.2, rfl, ha_o, hn9, hrng, fun i j ci cj hij hci hcj hr => hhas i j ci cj (by have := (List.getElem?_eq_some_iff.1 hci).1; omega) hij hci hcj hr, by omega, (hm.pick [0, 1] rfl)⟩

set_option maxHeartbeats 800000 in
theorem r12_viol (q : Option Addr) (cq : Nat) (cs : List CmdV) (po : Option Addr) (co : Nat) (w0 : World) (hq : Rd w0 q (cs.flatMap encC)) (hl : cs.length ≤ 40) (hok : ∀ c ∈ cs, Pl.ccheck c.cm = 0) (hxo : Rd w0 po ((Pl.ids cs.length).flatMap encI)) : C Try.prog 27 [.slice q cs.length cq, .slice po cs.length co] w0 fun v w' => (∃ (p : Option Addr) (n9 cap : Nat), v = .slice p n9 cap ∧ (n9 = 0 → Pl.Safe (cs.map CmdV.cm))) ∧ Ext No w0 w' := by
  refine C_of Try.func27 rfl rfl rfl fun κ hret hnorm => ?_
  have hm := Mem.start w0
  refine HW_seq rfl ?_
  refine HW_text (.pure 0 .done) (by kernel_rfl) ?_
  refine rw_p rfl rfl (y_assign rfl) ?_
  refine rw_done ?_
  refine gn_sq ?_
  refine HW_seq rfl ?_
  refine HW_text (.pure 0 .done) (by kernel_rfl) ?_
  refine rw_p rfl rfl (y_assign rfl) ?_
  replace hm := hm.gapIn
  have ha_o := Acc.nil 77 2 none 0
  refine rw_done ?_
  refine gn_sq ?_
  refine HW_seq rfl ?_
  refine HW_text (.pure 0 (.act 1 (.pure 2 .done))) (by kernel_rfl) ?_
  refine rw_p rfl rfl (y_move rfl) ?_
  refine a_call rfl rfl rfl go49 (r12_graph q cq cs _ (hq.ext0 hm.to) hl hok) fun v w hR => ?_
  obtain ⟨m_gr, p_e, n_e, cap_e, g_e, b_e, es, rfl, ha_e, hn_e, hrng, hhas, hes, hmc⟩ := hR
  refine ⟨trivial, ?_⟩
  replace hm := hm.callN hmc
  subst hn_e
  refine rw_p rfl rfl (y_assign rfl) ?_
  refine rw_done ?_
  refine gn_sq ?_
  refine HW_seq rfl ?_
  refine HW_seq rfl ?_
  refine HW_text (.pure 0 .done) (by kernel_rfl) ?_
  refine rw_p rfl rfl (y_assign rfl) ?_
  refine rw_done ?_
  refine gn_sq ?_
  refine HW_block rfl ?_
  refine HW_loopK (ι := Nat × Ow × List (Int × Int)) rfl (ks := [1, 4, 6]) (.cons rfl (.cons rfl (.cons rfl .nil))) (fun x => [(7, .int .i64 x.1), (5, .slice x.2.1.p x.2.1.n x.2.1.cap)]) (fun x w => Mem w0 w No [(x.2.1.g, x.2.1.b), (g_e, b_e), (m_gr, .row 74 [.int .i64 (cs.length : Int), .slice p_e es.length cap_e])] ∧ Acc 77 2 x.2.1.p x.2.1.n x.2.1.cap (x.2.2.flatMap encE) x.2.1.g x.2.1.b ∧ x.1 ≤ es.length ∧ x.2.1.n = x.2.2.length ∧ (x.2.2.length = 0 → ∀ (j : Nat) e, j < x.1 → es[j]? = some e → e.1 ≤ e.2) ∧ x.2.2.length ≤ x.1) (fun x => es.length - x.1) (0, ⟨none, 0, 0, 0, .gap⟩, []) (⟨(hm.pick [2, 0, 1] rfl), ha_o, Nat.zero_le _, rfl, fun _ _ _ h => absurd h (Nat.not_lt_zero _), by simp⟩) ⟨rfl, rfl, trivial⟩ (fun x w hM => ?_)
  obtain ⟨hm, ha_o, hk, hn9, hno, hlen⟩ := hM
  refine HW_seq rfl ?_
  refine HW_seq rfl ?_
  refine HW_text (.pure 0 (.pure 1 (.pure 2 (.pure 3 (.pure 4 (.pure 5 (.pure 6 .done))))))) (by kernel_rfl) ?_
  refine rw_p rfl rfl (y_move rfl) ?_
  refine rw_p rfl rfl (y_move rfl) ?_
  refine rw_p rfl rfl (y_nil rfl) ?_
  refine rw_p rfl rfl (y_fieldAddr rfl fo74_1) ?_
  refine rw_p rfl rfl (y_load rfl sc46 (hm.nt 2 rfl) rfl) ?_
  refine rw_p rfl rfl (y_len rfl rfl sl46) ?_
  refine rw_p rfl rfl (y_lt rfl rfl) ?_
  refine rw_done ?_
  refine gn_sq ?_
  refine HW_cond rfl rfl (fun hc0 => ?_) (fun hc0 => ?_)
  ·
    simp only [decide_eq_true_eq] at hc0
    obtain ⟨e, hi⟩ : ∃ y_, es[x.1]? = some y_ := ⟨_, List.getElem?_eq_getElem (by omega)⟩
    obtain ⟨qb, qo, rfl⟩ := (ha_e.rd hm 1 rfl).atI encE_len (by decide) hi
    have her := hrng e (List.mem_of_getElem? hi)
    refine HW_skip rfl ?_
    refine gn_sq ?_
    refine HW_seq rfl ?_
    refine HW_block rfl ?_
    refine HW_seq rfl ?_
    refine HW_draw (.pure 0 (.pure 1 (.pure 2 (.pure 3 (.pure 4 (.pure 5 (.pure 6 (.pure 7 (.pure 8 (.pure 10 (.pure 11 (.pure 12 (.pure 13 (.pure 14 (.pure 15 (.pure 16 (.pure 17 (.pure 18 (.act 9 (.cut (.act 19 (.pure 20 .done)))))))))))))))))))))) No mix (by kernel_rfl) hm fun w hw hm0 hh => ?_
    have hm := hm0
    refine rw_p rfl rfl (y_move rfl) ?_
    refine rw_p rfl rfl (y_move rfl) ?_
    refine rw_p rfl rfl (y_nil rfl) ?_
    refine rw_p rfl rfl (y_fieldAddr rfl fo74_1) ?_
    refine rw_p rfl rfl (y_load rfl sc46 (hm0.nd 2 rfl id) rfl) ?_
    refine rw_p rfl rfl (y_move rfl) ?_
    refine rw_p rfl rfl (y_index rfl rfl sl46 rfl (by omega) (by omega)) ?_
    refine rw_p rfl rfl (y_fieldAddr rfl fo77_1) ?_
    refine rw_p rfl rfl (y_elS rfl sc3 (ha_e.rd hm0 1 rfl).nd encE_len hi rfl) ?_
    refine rw_p rfl rfl (y_move rfl) ?_
    refine rw_p rfl rfl (y_move rfl) ?_
    refine rw_p rfl rfl (y_nil rfl) ?_
    refine rw_p rfl rfl (y_fieldAddr rfl fo74_1) ?_
    refine rw_p rfl rfl (y_load rfl sc46 (hm0.nd 2 rfl id) rfl) ?_
    refine rw_p rfl rfl (y_move rfl) ?_
    refine rw_p rfl rfl (y_index rfl rfl sl46 rfl (by omega) (by omega)) ?_
    refine rw_p rfl rfl (y_fieldAddr rfl fo77_0) ?_
    refine rw_p rfl rfl (y_elS rfl sc3 (ha_e.rd hm0 1 rfl).nd encE_len hi rfl) ?_
    refine a_call rfl rfl rfl go50 (r12_place po co cs.length e.2 _ (hxo.ext0 hm.to) (by omega) (by omega)) fun v w hR => ?_
    obtain ⟨rfl, hE⟩ := hR
    refine ⟨hh.ext hE, ?_⟩
    replace hm := hm.ext hE
    replace hh := hh.ext hE
    refine a_cut ?_
    refine a_call rfl rfl rfl go50 (r12_place po co cs.length e.1 _ (hxo.ext0 hm.to) (by omega) (by omega)) fun v w hR => ?_
    obtain ⟨rfl, hE⟩ := hR
    refine ⟨trivial, ?_⟩
    replace hm := hm.ext hE
    refine rw_p rfl rfl (y_lt rfl rfl) ?_
    refine rw_done ?_
    refine gn_sq ?_
    refine HW_cond rfl rfl (fun hc1 => ?_) (fun hc1 => ?_)
    ·
      simp only [Bool.and_eq_true, Bool.or_eq_true, Bool.and_eq_false_iff, Bool.or_eq_false_iff, Bool.not_eq_true', Bool.not_eq_false', decide_eq_true_eq, decide_eq_false_iff_not] at hc1
      refine HW_text (.pure 0 (.pure 1 (.pure 2 (.pure 3 (.pure 4 (.pure 5 (.pure 6 (.pure 7 (.act 8 (.act 9 (.pure 10 .done))))))))))) (by kernel_rfl) ?_
      refine rw_p rfl rfl (y_move rfl) ?_
      refine rw_p rfl rfl (y_move rfl) ?_
      refine rw_p rfl rfl (y_nil rfl) ?_
      refine rw_p rfl rfl (y_fieldAddr rfl fo74_1) ?_
      refine rw_p rfl rfl (y_load rfl sc46 (hm.nt 2 rfl) rfl) ?_
      refine rw_p rfl rfl (y_move rfl) ?_
      refine rw_p rfl rfl (y_index rfl rfl sl46 rfl (by omega) (by omega)) ?_
      refine rw_p rfl rfl (y_elA rfl ag77 (ha_e.rd hm 1 rfl).nt encE_len hi) ?_
      refine a_buildSlice (l := [_, _]) rfl rfl sl46 z77 rfl rfl rfl rfl rfl rfl rfl hm trivial fun m1 w hg_m1 hm hh => ?_
      refine a_append rfl rfl rfl rfl rfl rfl sl46 sl46 z77 rfl rfl (Rd.row0 (hm.get (k := 0) rfl)) rfl ha_o hm 1 rfl (by omega) (by omega) fun p_o cap_o g_o b_o w ha_o hm => ?_
      refine rw_p rfl rfl (y_assign rfl) ?_
      refine rw_done ?_
      refine gn_bl ?_
      refine gn_sq ?_
      refine HW_text (.pure 0 (.pure 1 (.pure 2 .done))) (by kernel_rfl) ?_
      refine rw_p rfl rfl (y_move rfl) ?_
      refine rw_p rfl rfl (y_add rfl rfl (i64w (by omega) (by omega))) ?_
      refine rw_p rfl rfl (y_assign rfl) ?_
      refine rw_done ?_
      refine next (x.1 + 1, ⟨p_o, _, cap_o, g_o, b_o⟩, x.2.2 ++ [e]) (by simp only; omega) ⟨(hm.pick [1, 2, 3] rfl), ha_o.to (by simp only [List.flatMap_append]; rfl), by simp only; omega, by simp only [List.length_append, List.length_singleton]; omega, ?_, by simp only [List.length_append, List.length_singleton]; omega⟩ ⟨nx x.1, rfl, rfl, rfl, rfl, trivial⟩
      intro h
      simp at h
    ·
      simp only [Bool.and_eq_true, Bool.or_eq_true, Bool.and_eq_false_iff, Bool.or_eq_false_iff, Bool.not_eq_true', Bool.not_eq_false', decide_eq_true_eq, decide_eq_false_iff_not] at hc1
      refine HW_skip rfl ?_
      refine gn_bl ?_
      refine gn_sq ?_
      refine HW_text (.pure 0 (.pure 1 (.pure 2 .done))) (by kernel_rfl) ?_
      refine rw_p rfl rfl (y_move rfl) ?_
      refine rw_p rfl rfl (y_add rfl rfl (i64w (by omega) (by omega))) ?_
      refine rw_p rfl rfl (y_assign rfl) ?_
      refine rw_done ?_
      refine next (x.1 + 1, x.2.1, x.2.2) (by simp only; omega) ⟨(hm.pick [0, 1, 2] rfl), ha_o, by simp only; omega, by simp only; omega, ?_, by simp only; omega⟩ ⟨nx x.1, rfl, rfl, rfl, rfl, trivial⟩
      intro h j d hjx hd
      rcases Nat.lt_or_ge j x.1 with h1 | h1
      · exact hno h j d h1 hd
      · obtain rfl : j = x.1 := by simp only at hjx; omega
        rw [hi] at hd; cases hd; omega
  ·
    simp only [decide_eq_false_iff_not] at hc0
    have hke : x.1 = es.length := by omega
    refine HW_exit rfl ?_
    refine gx_sq (gx_lp ?_)
    refine gx_here ?_
    refine gn_sq ?_
    refine HW_seq rfl ?_
    refine HW_text (.pure 0 (.pure 1 .done)) (by kernel_rfl) ?_
    refine rw_p rfl rfl (y_move rfl) ?_
    refine rw_p rfl rfl (y_assign rfl) ?_
    refine rw_done ?_
    refine gn_sq ?_
    refine HW_ret rfl ?_
    refine toR (fin hret rfl (.tmp rfl .nil) .one ?_)
    exact ⟨⟨_, _, _, rfl, fun h0 i j ci cj hji hci hcj hr => by obtain ⟨a, ha, rfl⟩ := cmsOf hci; obtain ⟨b, hb, rfl⟩ := cmsOf hcj; obtain ⟨k, hk9, e9⟩ := List.getElem_of_mem (hhas i j a b (by omega) ha hb hr); have h9 := hno (by omega) k _ (by omega) (List.getElem?_eq_getElem hk9); rw [e9] at h9; simp only at h9; omega⟩, hm.to⟩

end Go.Proofs.Ytcngaknlagocdaa
