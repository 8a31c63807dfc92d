/- Contracts of functions of the program: what each returns. Conditions: the hypotheses of each theorem. -/
import Derived.Test.YtaehgpeenaomcaaGreatDlB
set_option linter.unusedVariables false
set_option linter.unusedSimpArgs false
namespace Go.Proofs.YtaehgpeenaomcaaGreat
open Go Go.Cx

theorem fv32_1 : fldV Tryz.prog 32 1 = some (1, 1, false) := by kernel_rfl
theorem go84 : isGo Tryz.prog 84 = true := by kernel_rfl
theorem go85 : isGo Tryz.prog 85 = true := by kernel_rfl
theorem go86 : isGo Tryz.prog 86 = true := by kernel_rfl
theorem go52 : isGo Tryz.prog 52 = true := by kernel_rfl
theorem go30 : isGo Tryz.prog 30 = true := by kernel_rfl
theorem go31 : isGo Tryz.prog 31 = true := by kernel_rfl

set_option maxHeartbeats 800000 in
theorem r5_check (oo nn : Int) (H : Nat → UInt8) (q : Option Addr) (cq : Nat) (cs : List CmdV) (w0 : World) (h1 : Pl.I64 oo) (h2 : Pl.I64 nn) (hq : Rd w0 q (cs.flatMap encC)) (hdl : cs.length ≤ 4611686018427387903) (hok : ∀ c ∈ cs, okC w0 c) : C Tryz.prog 52 [.agg ⟨dlV oo nn H q cs.length cq⟩] w0 fun v w' => (∃ e a, v = .tuple ⟨[.int .i64 e, .int .i64 a]⟩ ∧ (e = 0 → Pl.VD oo nn (cs.map CmdV.cm)) ∧ (e ≠ 0 → ¬ Pl.VD oo nn (cs.map CmdV.cm))) ∧ Ext No w0 w' := by
  refine C_of Tryz.func52 rfl rfl rfl fun κ hret hnorm => ?_
  have hm := Mem.start w0
  refine HW_seq rfl ?_
  refine HW_text (.act 0 (.pure 1 (.pure 2 .done))) (by kernel_rfl) ?_
  refine a_box rfl rfl rfl rfl hm trivial fun m1 w hg_m1 hm hh => ?_
  refine rw_p rfl rfl (y_assign rfl) ?_
  refine rw_p rfl rfl (y_assign rfl) ?_
  refine rw_done ?_
  refine gn_sq ?_
  refine HW_seq rfl ?_
  refine HW_seq rfl ?_
  refine HW_draw (.pure 0 (.pure 1 (.pure 2 (.pure 3 (.pure 4 (.pure 5 (.pure 6 (.pure 7 (.pure 8 (.pure 9 (.pure 10 (.act 11 (.pure 12 (.pure 13 (.pure 14 (.pure 15 (.pure 16 (.act 17 (.pure 18 (.pure 19 .done)))))))))))))))))))) No mix (by kernel_rfl) hm fun w hw hm0 hh => ?_
  have hm := hm0
  refine rw_p rfl rfl (y_fieldAddr rfl fo26_0) ?_
  refine rw_p rfl rfl (y_load rfl sc3 (hm0.nd 0 rfl id) rfl) ?_
  refine rw_p rfl rfl (y_lt rfl rfl) ?_
  refine rw_p rfl rfl (y_move rfl) ?_
  refine rw_g rfl rfl rfl (fun hc => (y_fieldAddr rfl fo26_1)) ?_
  refine rw_g rfl rfl rfl (fun hc => (y_load (gx hc rfl) sc3 (hm0.nd 0 rfl id) rfl)) ?_
  refine rw_g rfl rfl rfl (fun hc => (y_lt (gx hc rfl) rfl)) ?_
  refine rw_p rfl rfl (y_or rfl rfl rfl) ?_
  refine rw_p rfl rfl (y_move rfl) ?_
  refine rw_g rfl rfl rfl (fun hc => (y_fieldAddr rfl fo26_0)) ?_
  refine rw_g rfl rfl rfl (fun hc => (y_load (gx hc rfl) sc3 (hm0.nd 0 rfl id) rfl)) ?_
  refine a_callG rfl rfl rfl (fun hc => rfl) go53 (fun hc => (r1_max _)) hh fun w hE hh => ?_
  replace hm := hm.ext hE
  refine rw_g rfl rfl rfl (fun hc => (y_gt (gx hc rfl) (gx hc rfl))) ?_
  refine rw_p rfl rfl (y_or rfl rfl rfl) ?_
  refine rw_p rfl rfl (y_move rfl) ?_
  refine rw_g rfl rfl rfl (fun hc => (y_fieldAddr rfl fo26_1)) ?_
  refine rw_g rfl rfl rfl (fun hc => (y_load (gx hc rfl) sc3 (hm0.nd 0 rfl id) rfl)) ?_
  refine a_callG rfl rfl rfl (fun hc => rfl) go53 (fun hc => (r1_max _)) hh fun w hE hh => ?_
  replace hm := hm.ext hE
  refine rw_g rfl rfl rfl (fun hc => (y_gt (gx hc rfl) (gx hc rfl))) ?_
  refine rw_p rfl rfl (y_or rfl rfl rfl) ?_
  refine rw_done ?_
  refine gn_sq ?_
  refine HW_cond rfl rfl (fun hc0 => ?_) (fun hc0 => ?_)
  ·
    refine HW_seq rfl ?_
    refine HW_text (.pure 0 (.pure 1 .done)) (by kernel_rfl) ?_
    refine rw_p rfl rfl (y_assign rfl) ?_
    refine rw_p rfl rfl (y_assign rfl) ?_
    refine rw_done ?_
    refine gn_sq ?_
    refine HW_ret rfl ?_
    refine gr_sq ?_
    refine toR (fin hret rfl (.tmp rfl (.tmp rfl .nil)) .more ?_)
    exact ⟨⟨_, _, rfl, fun h => absurd h (by decide), fun _ hv => by have := hv.lens; simp at hc0; omega⟩, hm.to⟩
  ·
    simp only [Bool.or_eq_false_iff, decide_eq_false_iff_not] at hc0
    refine HW_skip rfl ?_
    refine gn_sq ?_
    refine HW_seq rfl ?_
    refine HW_seq rfl ?_
    refine HW_text (.pure 0 .done) (by kernel_rfl) ?_
    refine rw_p rfl rfl (y_assign rfl) ?_
    refine rw_done ?_
    refine gn_sq ?_
    refine HW_block rfl ?_
    refine HW_loopK (ι := Nat) rfl (ks := [1]) (.cons rfl .nil) (fun k => [(4, .int .i64 k)]) (fun k w => Mem w0 w No [(m1, .row 26 (dlV oo nn H q cs.length cq))] ∧ k ≤ cs.length ∧ ∀ (j : Nat) c, j < k → cs[j]? = some c → Pl.single oo nn c.cm = 0) (fun k => cs.length - k) 0 (⟨(hm.pick [0] rfl), Nat.zero_le _, fun _ _ h => absurd h (Nat.not_lt_zero _)⟩) ⟨rfl, trivial⟩ (fun k w hM => ?_)
    obtain ⟨hm, hk, hno⟩ := hM
    refine HW_seq rfl ?_
    refine HW_seq rfl ?_
    refine HW_text (.pure 0 (.pure 1 (.pure 2 (.pure 3 (.pure 4 .done))))) (by kernel_rfl) ?_
    refine rw_p rfl rfl (y_move rfl) ?_
    refine rw_p rfl rfl (y_fieldAddr rfl fo26_4) ?_
    refine rw_p rfl rfl (y_load rfl sc24 (hm.nt 0 rfl) rfl) ?_
    refine rw_p rfl rfl (y_len rfl rfl sl24) ?_
    refine rw_p rfl rfl (y_lt rfl rfl) ?_
    refine rw_done ?_
    refine gn_sq ?_
    refine HW_cond rfl rfl (fun hc1 => ?_) (fun hc1 => ?_)
    ·
      simp only [decide_eq_true_eq] at hc1
      obtain ⟨c, hi⟩ : ∃ y_, cs[k]? = some y_ := ⟨_, List.getElem?_eq_getElem (by omega)⟩
      obtain ⟨qb, qo, rfl⟩ := hq.atI encC_len (by decide) hi
      have hokc := hok c (List.mem_of_getElem? hi)
      have hcl := hokc.2.2.2.2.le
      have hcx := hokc.2.2.2.2.max
      refine HW_skip rfl ?_
      refine gn_sq ?_
      refine HW_seq rfl ?_
      refine HW_block rfl ?_
      refine HW_seq rfl ?_
      refine HW_draw (.pure 0 (.pure 1 (.pure 2 (.pure 3 (.pure 4 (.pure 5 (.cut (.act 6 (.pure 7 .done))))))))) No mix (by kernel_rfl) hm fun w hw hm0 hh => ?_
      have hm := hm0
      refine rw_p rfl rfl (y_loadA (s := 67) (vs := dlV oo nn H _ cs.length cq) rfl ag26 (hm0.nd 0 rfl id) rfl) ?_
      refine rw_p rfl rfl (y_fieldAddr rfl fo26_4) ?_
      refine rw_p rfl rfl (y_load rfl sc24 (hm0.nd 0 rfl id) rfl) ?_
      refine rw_p rfl rfl (y_move rfl) ?_
      refine rw_p rfl rfl (y_index rfl rfl sl24 rfl (by omega) (by omega)) ?_
      refine rw_p rfl rfl (y_elA rfl ag60 (hq.ext0 hm0.to).nd encC_len hi) ?_
      refine a_cut ?_
      refine a_call rfl rfl rfl go84 (r5_single oo nn H _ cq cs c.cm c.d.p c.d.cap _ hokc.cm (by have : c.cm.bs.length = c.d.bs.length := rfl; omega)) fun v w hR => ?_
      obtain ⟨rfl, hE⟩ := hR
      refine ⟨trivial, ?_⟩
      replace hm := hm.ext hE
      refine rw_p rfl rfl (y_assign rfl) ?_
      refine rw_done ?_
      refine gn_sq ?_
      refine HW_seq rfl ?_
      refine HW_text (.pure 0 (.pure 1 .done)) (by kernel_rfl) ?_
      refine rw_p rfl rfl (y_move rfl) ?_
      refine rw_p rfl rfl (y_ne rfl rfl) ?_
      refine rw_done ?_
      refine gn_sq ?_
      refine HW_cond rfl rfl (fun hc2 => ?_) (fun hc2 => ?_)
      ·
        refine HW_seq rfl ?_
        refine HW_text (.pure 0 (.pure 1 (.pure 2 (.pure 3 .done)))) (by kernel_rfl) ?_
        refine rw_p rfl rfl (y_move rfl) ?_
        refine rw_p rfl rfl (y_move rfl) ?_
        refine rw_p rfl rfl (y_assign rfl) ?_
        refine rw_p rfl rfl (y_assign rfl) ?_
        refine rw_done ?_
        refine gn_sq ?_
        refine HW_ret rfl ?_
        refine gr_bl (gr_sq (gr_lp (gr_bl (gr_sq ?_))))
        refine toR (fin hret rfl (.tmp rfl (.tmp rfl .nil)) .more ?_)
        exact ⟨⟨_, _, rfl, fun h => absurd h (by simpa using hc2), fun _ hv => absurd (hv.one c.cm (List.mem_map.2 ⟨c, List.mem_of_getElem? hi, rfl⟩)) (by simpa using hc2)⟩, hm.to⟩
      ·
        refine HW_skip rfl ?_
        refine gn_bl ?_
        refine gn_sq ?_
        refine HW_text (.pure 0 (.pure 1 (.pure 2 .done))) (by kernel_rfl) ?_
        refine rw_p rfl rfl (y_move rfl) ?_
        refine rw_p rfl rfl (y_add rfl rfl (i64w (by omega) (by omega))) ?_
        refine rw_p rfl rfl (y_assign rfl) ?_
        refine rw_done ?_
        refine next (k + 1) (by omega) ⟨(hm.pick [0] rfl), by omega, fun j d hj hd => ?_⟩ ⟨nx k, rfl, trivial⟩
        rcases Nat.lt_or_ge j k with h | h
        · exact hno j d h hd
        · obtain rfl : j = k := by omega
          rw [hi] at hd; cases hd; simpa using hc2
    ·
      simp only [decide_eq_false_iff_not] at hc1
      have hke : k = cs.length := by omega
      subst hke
      have hone : ∀ c ∈ cs, Pl.single oo nn c.cm = 0 := fun c hc => by
        obtain ⟨j, hj, e⟩ := List.getElem_of_mem hc
        exact hno j c (by omega) (by rw [← e]; exact List.getElem?_eq_getElem hj)
      refine HW_exit rfl ?_
      refine gx_sq (gx_lp ?_)
      refine gx_here ?_
      refine gn_sq ?_
      refine HW_seq rfl ?_
      refine HW_seq rfl ?_
      refine HW_text (.pure 0 .done) (by kernel_rfl) ?_
      refine rw_p rfl rfl (y_assign rfl) ?_
      refine rw_done ?_
      refine gn_sq ?_
      refine HW_block rfl ?_
      refine HW_loopK (ι := Nat) rfl (ks := [1]) (.cons rfl .nil) (fun x => [(6, .int .i64 x)]) (fun x w => Mem w0 w No [(m1, .row 26 (dlV oo nn H q cs.length cq))] ∧ x ≤ cs.length ∧ ∀ (i j : Nat) ci cj, j < i → i < x → cs[i]? = some ci → cs[j]? = some cj → Pl.dj ci.cm cj.cm) (fun x => cs.length - x) 0 (⟨(hm.pick [0] rfl), Nat.zero_le _, fun _ _ _ _ _ h => absurd h (Nat.not_lt_zero _)⟩) ⟨rfl, trivial⟩ (fun x w hM => ?_)
      obtain ⟨hm, hx0, hdis⟩ := hM
      refine HW_seq rfl ?_
      refine HW_seq rfl ?_
      refine HW_text (.pure 0 (.pure 1 (.pure 2 (.pure 3 (.pure 4 .done))))) (by kernel_rfl) ?_
      refine rw_p rfl rfl (y_move rfl) ?_
      refine rw_p rfl rfl (y_fieldAddr rfl fo26_4) ?_
      refine rw_p rfl rfl (y_load rfl sc24 (hm.nt 0 rfl) rfl) ?_
      refine rw_p rfl rfl (y_len rfl rfl sl24) ?_
      refine rw_p rfl rfl (y_lt rfl rfl) ?_
      refine rw_done ?_
      refine gn_sq ?_
      refine HW_cond rfl rfl (fun hc3 => ?_) (fun hc3 => ?_)
      ·
        simp only [decide_eq_true_eq] at hc3
        obtain ⟨c, hi⟩ : ∃ y_, cs[x]? = some y_ := ⟨_, List.getElem?_eq_getElem (by omega)⟩
        obtain ⟨qb, qo, rfl⟩ := hq.atI encC_len (by decide) hi
        have hcc := Pl.ccheck_ok (Pl.single_ok (hone c (List.mem_of_getElem? hi))).1
        refine HW_skip rfl ?_
        refine gn_sq ?_
        refine HW_seq rfl ?_
        refine HW_block rfl ?_
        refine HW_seq rfl ?_
        refine HW_text (.pure 0 .done) (by kernel_rfl) ?_
        refine rw_p rfl rfl (y_assign rfl) ?_
        refine rw_done ?_
        refine gn_sq ?_
        refine HW_block rfl ?_
        refine HW_loopK (ι := Nat) rfl (ks := [1, 6]) (.cons rfl (.cons rfl .nil)) (fun y => [(7, .int .i64 y)]) (fun y w => Mem w0 w No [(m1, .row 26 (dlV oo nn H (some ⟨qb, qo, none⟩) cs.length cq))] ∧ y ≤ x ∧ ∀ (j : Nat) cj, j < y → cs[j]? = some cj → Pl.dj c.cm cj.cm) (fun y => x - y) 0 (⟨(hm.pick [0] rfl), Nat.zero_le _, fun _ _ h => absurd h (Nat.not_lt_zero _)⟩) ⟨rfl, trivial⟩ (fun y w hM => ?_)
        obtain ⟨hm, hy0, hin⟩ := hM
        refine HW_seq rfl ?_
        refine HW_seq rfl ?_
        refine HW_text (.pure 0 (.pure 1 (.pure 2 .done))) (by kernel_rfl) ?_
        refine rw_p rfl rfl (y_move rfl) ?_
        refine rw_p rfl rfl (y_move rfl) ?_
        refine rw_p rfl rfl (y_lt rfl rfl) ?_
        refine rw_done ?_
        refine gn_sq ?_
        refine HW_cond rfl rfl (fun hc4 => ?_) (fun hc4 => ?_)
        ·
          simp only [decide_eq_true_eq] at hc4
          obtain ⟨d, hj⟩ : ∃ y_, cs[y]? = some y_ := ⟨_, List.getElem?_eq_getElem (by omega)⟩
          have hcd := Pl.ccheck_ok (Pl.single_ok (hone d (List.mem_of_getElem? hj))).1
          refine HW_skip rfl ?_
          refine gn_sq ?_
          refine HW_seq rfl ?_
          refine HW_block rfl ?_
          refine HW_seq rfl ?_
          refine HW_draw (.pure 0 (.pure 1 (.pure 2 (.pure 3 (.pure 4 (.pure 6 (.pure 7 (.pure 8 (.pure 9 (.pure 10 (.act 5 (.cut (.act 11 (.act 12 (.pure 13 (.pure 14 .done)))))))))))))))) No mix (by kernel_rfl) hm fun w hw hm0 hh => ?_
          have hm := hm0
          refine rw_p rfl rfl (y_fieldAddr rfl fo26_4) ?_
          refine rw_p rfl rfl (y_load rfl sc24 (hm0.nd 0 rfl id) rfl) ?_
          refine rw_p rfl rfl (y_move rfl) ?_
          refine rw_p rfl rfl (y_index rfl rfl sl24 rfl (by omega) (by omega)) ?_
          refine rw_p rfl rfl (y_elA rfl ag60 (hq.ext0 hm0.to).nd encC_len hi) ?_
          refine rw_p rfl rfl (y_fieldAddr rfl fo26_4) ?_
          refine rw_p rfl rfl (y_load rfl sc24 (hm0.nd 0 rfl id) rfl) ?_
          refine rw_p rfl rfl (y_move rfl) ?_
          refine rw_p rfl rfl (y_index rfl rfl sl24 rfl (by omega) (by omega)) ?_
          refine rw_p rfl rfl (y_elA rfl ag60 (hq.ext0 hm0.to).nd encC_len hj) ?_
          refine a_call rfl rfl rfl go57 (r4_target c.cm c.d.p c.d.cap _) fun v w hR => ?_
          obtain ⟨rfl, hE⟩ := hR
          refine ⟨hh.ext hE, ?_⟩
          replace hm := hm.ext hE
          replace hh := hh.ext hE
          refine a_cut ?_
          refine a_call rfl rfl rfl go57 (r4_target d.cm d.d.p d.d.cap _) fun v w hR => ?_
          obtain ⟨rfl, hE⟩ := hR
          refine ⟨trivial, ?_⟩
          replace hm := hm.ext hE
          refine a_call rfl rfl rfl go85 (r1_overlap c.cm.to (Pl.clen c.cm) d.cm.to (Pl.clen d.cm) _ (by omega) (by omega)) fun v w hR => ?_
          obtain ⟨rfl, hE⟩ := hR
          refine ⟨trivial, ?_⟩
          replace hm := hm.ext hE
          refine rw_p rfl rfl (y_fieldV rfl fv32_1 rfl) ?_
          refine rw_p rfl rfl (y_gt rfl rfl) ?_
          refine rw_done ?_
          refine gn_sq ?_
          refine HW_cond rfl rfl (fun hc5 => ?_) (fun hc5 => ?_)
          ·
            refine HW_seq rfl ?_
            refine HW_text (.pure 0 (.pure 1 (.pure 2 .done))) (by kernel_rfl) ?_
            refine rw_p rfl rfl (y_move rfl) ?_
            refine rw_p rfl rfl (y_assign rfl) ?_
            refine rw_p rfl rfl (y_assign rfl) ?_
            refine rw_done ?_
            refine gn_sq ?_
            refine HW_ret rfl ?_
            refine gr_bl (gr_sq (gr_lp (gr_bl (gr_bl (gr_sq (gr_lp (gr_bl (gr_sq ?_))))))))
            refine toR (fin hret rfl (.tmp rfl (.tmp rfl .nil)) .more ?_)
            exact ⟨⟨_, _, rfl, fun h => absurd h (by decide), fun _ hv => Pl.ovl_ndj (by simpa using hc5) (hv.dis x y _ _ (by omega) (cmsGet hi) (cmsGet hj))⟩, hm.to⟩
          ·
            refine HW_skip rfl ?_
            refine gn_bl ?_
            refine gn_sq ?_
            refine HW_text (.pure 0 (.pure 1 (.pure 2 .done))) (by kernel_rfl) ?_
            refine rw_p rfl rfl (y_move rfl) ?_
            refine rw_p rfl rfl (y_add rfl rfl (i64w (by omega) (by omega))) ?_
            refine rw_p rfl rfl (y_assign rfl) ?_
            refine rw_done ?_
            refine next (y + 1) (by omega) ⟨(hm.pick [0] rfl), by omega, fun j cj hjy hcj => ?_⟩ ⟨nx y, rfl, rfl, trivial⟩
            rcases Nat.lt_or_ge j y with h | h
            · exact hin j cj h hcj
            · obtain rfl : j = y := by omega
              rw [hj] at hcj; cases hcj; exact Pl.ovl_dj (by simpa using hc5) (by omega) (by omega)
        ·
          simp only [decide_eq_false_iff_not] at hc4
          have hye : x = y := by omega
          subst hye
          refine HW_exit rfl ?_
          refine gx_sq (gx_lp ?_)
          refine gx_here ?_
          refine gn_bl ?_
          refine gn_sq ?_
          refine HW_text (.pure 0 (.pure 1 (.pure 2 .done))) (by kernel_rfl) ?_
          refine rw_p rfl rfl (y_move rfl) ?_
          refine rw_p rfl rfl (y_add rfl rfl (i64w (by omega) (by omega))) ?_
          refine rw_p rfl rfl (y_assign rfl) ?_
          refine rw_done ?_
          refine next (x + 1) (by omega) ⟨(hm.pick [0] rfl), by omega, fun i j ci cj hji hix hci hcj => ?_⟩ ⟨nx x, rfl, trivial⟩
          rcases Nat.lt_or_ge i x with h | h
          · exact hdis i j ci cj hji h hci hcj
          · obtain rfl : i = x := by omega
            rw [hi] at hci; cases hci; exact hin j cj (by omega) hcj
      ·
        simp only [decide_eq_false_iff_not] at hc3
        have hke : x = cs.length := by omega
        subst hke
        refine HW_exit rfl ?_
        refine gx_sq (gx_lp ?_)
        refine gx_here ?_
        refine gn_sq ?_
        refine HW_seq rfl ?_
        refine HW_text (.pure 0 (.act 1 (.pure 2 .done))) (by kernel_rfl) ?_
        refine rw_p rfl rfl (y_loadA (s := 67) (vs := dlV oo nn H _ cs.length cq) rfl ag26 (hm.nt 0 rfl) rfl) ?_
        refine a_call rfl rfl rfl go86 (r5_gap oo nn H _ cq cs _ (hq.ext0 hm.to) hdl (by omega) (fun c hc => okC.mono (hok c hc) hm.to) hone) fun v w hR => ?_
        obtain ⟨⟨x9, rfl, hg1, hg2⟩, hE⟩ := hR
        refine ⟨trivial, ?_⟩
        replace hm := hm.ext hE
        refine rw_p rfl rfl (y_assign rfl) ?_
        refine rw_done ?_
        refine gn_sq ?_
        refine HW_seq rfl ?_
        refine HW_seq rfl ?_
        refine HW_text (.pure 0 (.pure 1 .done)) (by kernel_rfl) ?_
        refine rw_p rfl rfl (y_move rfl) ?_
        refine rw_p rfl rfl (y_ge rfl rfl) ?_
        refine rw_done ?_
        refine gn_sq ?_
        refine HW_cond rfl rfl (fun hc6 => ?_) (fun hc6 => ?_)
        ·
          simp only [decide_eq_true_eq] at hc6
          refine HW_seq rfl ?_
          refine HW_text (.pure 0 (.pure 1 (.pure 2 .done))) (by kernel_rfl) ?_
          refine rw_p rfl rfl (y_move rfl) ?_
          refine rw_p rfl rfl (y_assign rfl) ?_
          refine rw_p rfl rfl (y_assign rfl) ?_
          refine rw_done ?_
          refine gn_sq ?_
          refine HW_ret rfl ?_
          refine gr_sq ?_
          refine toR (fin hret rfl (.tmp rfl (.tmp rfl .nil)) .more ?_)
          exact ⟨⟨_, _, rfl, fun h => absurd h (by decide), fun _ hv => by obtain ⟨y, h3, h4, h5⟩ := hg2 hc6; exact h5 (Pl.fnd_iff.2 (hv.cov y h3 h4))⟩, hm.to⟩
        ·
          simp only [decide_eq_false_iff_not] at hc6
          refine HW_skip rfl ?_
          refine gn_sq ?_
          refine HW_seq rfl ?_
          refine HW_text (.pure 0 (.pure 1 .done)) (by kernel_rfl) ?_
          refine rw_p rfl rfl (y_assign rfl) ?_
          refine rw_p rfl rfl (y_assign rfl) ?_
          refine rw_done ?_
          refine gn_sq ?_
          refine HW_ret rfl ?_
          refine toR (fin hret rfl (.tmp rfl (.tmp rfl .nil)) .more ?_)
          exact ⟨⟨_, _, rfl, fun _ => ⟨by omega, cmsAll fun j c hj hc => hone c (List.mem_of_getElem? hc), fun i j ci cj hji hci hcj => by obtain ⟨a, ha, rfl⟩ := cmsOf hci; obtain ⟨b, hb, rfl⟩ := cmsOf hcj; exact hdis i j a b hji (List.getElem?_eq_some_iff.1 ha).1 ha hb, fun y h3 h4 => by obtain ⟨c, hc, hb⟩ := Pl.cov_of (fun j hj => hg1 (by omega) j (by simpa using Nat.lt_succ_of_le hj)) y.toNat (by omega); exact ⟨c, hc, by rw [Int.toNat_of_nonneg h3] at hb; exact hb⟩⟩, fun h => absurd rfl h⟩, hm.to⟩

theorem r5_valid (oo nn : Int) (H : Nat → UInt8) (q : Option Addr) (cq : Nat) (cs : List CmdV) (w0 : World) (h1 : Pl.I64 oo) (h2 : Pl.I64 nn) (hq : Rd w0 q (cs.flatMap encC)) (hdl : cs.length ≤ 4611686018427387903) (hok : ∀ c ∈ cs, okC w0 c) : C Tryz.prog 31 [.agg ⟨dlV oo nn H q cs.length cq⟩] w0 fun v w' => v = .bool (Pl.vdB oo nn (cs.map CmdV.cm)) ∧ Ext No w0 w' := by
  refine C_of Tryz.func31 rfl rfl rfl fun κ hret hnorm => ?_
  have hm := Mem.start w0
  refine HW_seq rfl ?_
  refine HW_text (.act 0 (.pure 1 .done)) (by kernel_rfl) ?_
  refine a_box rfl rfl rfl rfl hm trivial fun m1 w hg_m1 hm hh => ?_
  refine rw_p rfl rfl (y_assign rfl) ?_
  refine rw_done ?_
  refine gn_sq ?_
  refine HW_seq rfl ?_
  refine HW_text (.pure 0 (.act 1 (.pure 2 (.pure 3 (.pure 4 (.pure 5 (.pure 6 .done))))))) (by kernel_rfl) ?_
  refine rw_p rfl rfl (y_loadA (s := 67) (vs := dlV oo nn H _ cs.length cq) rfl ag26 (hm.nt 0 rfl) rfl) ?_
  refine a_call rfl rfl rfl go52 (r5_check oo nn H _ cq cs _ h1 h2 (hq.ext0 hm.to) hdl (fun c hc => okC.mono (hok c hc) hm.to)) fun v w hR => ?_
  obtain ⟨⟨e9, a9, rfl, hv1, hv2⟩, hE⟩ := hR
  refine ⟨trivial, ?_⟩
  replace hm := hm.ext hE
  refine rw_p rfl rfl (y_move rfl) ?_
  refine rw_p rfl rfl (y_extract rfl rfl) ?_
  refine rw_p rfl rfl (y_extract rfl rfl) ?_
  refine rw_p rfl rfl (y_assign rfl) ?_
  refine rw_p rfl rfl (y_assign rfl) ?_
  refine rw_done ?_
  refine gn_sq ?_
  refine HW_seq rfl ?_
  refine HW_text (.pure 0 (.pure 1 (.pure 2 .done))) (by kernel_rfl) ?_
  refine rw_p rfl rfl (y_move rfl) ?_
  refine rw_p rfl rfl (y_eq rfl rfl) ?_
  refine rw_p rfl rfl (y_assign rfl) ?_
  refine rw_done ?_
  refine gn_sq ?_
  refine HW_ret rfl ?_
  refine toR (fin hret rfl (.tmp rfl .nil) .one ?_)
  have hb9 : decide (e9 = 0) = Pl.vdB oo nn (cs.map CmdV.cm) := by
    by_cases he : e9 = 0
    · rw [Pl.vdB_iff.2 (hv1 he), he]; rfl
    · rw [Pl.vdB_f (hv2 he), decide_eq_false he]
  exact ⟨congrArg Value.bool hb9, hm.to⟩

theorem r8_fits (oo nn : Int) (H : Nat → UInt8) (q : Option Addr) (cq : Nat) (cs : List CmdV) (r : Option Addr) (cr : Nat) (f : List UInt8) (w0 : World) (h1 : Pl.I64 oo) (h2 : Pl.I64 nn) (hq : Rd w0 q (cs.flatMap encC)) (hdl : cs.length ≤ 4611686018427387903) (hok : ∀ c ∈ cs, okC w0 c) : C Tryz.prog 16 [.slice r f.length cr, .agg ⟨dlV oo nn H q cs.length cq⟩] w0 fun v w' => v = .bool ((cs.all (fun c => decide (c.d.bs.length ≤ 300)) && decide (cs.length ≤ 40)) && Pl.vdB oo nn (cs.map CmdV.cm) && decide (oo = f.length) && decide (nn ≤ 3000)) ∧ Ext No w0 w' := by
  refine C_of Tryz.func16 rfl rfl rfl fun κ hret hnorm => ?_
  have hm := Mem.start w0
  refine HW_seq rfl ?_
  refine HW_text (.act 0 (.pure 1 .done)) (by kernel_rfl) ?_
  refine a_box rfl rfl rfl rfl hm trivial fun m1 w hg_m1 hm hh => ?_
  refine rw_p rfl rfl (y_assign rfl) ?_
  refine rw_done ?_
  refine gn_sq ?_
  refine HW_seq rfl ?_
  refine HW_text (.pure 0 (.act 1 (.pure 2 (.pure 3 (.act 4 (.pure 5 (.pure 6 (.pure 7 (.pure 8 (.pure 9 (.pure 10 (.pure 11 (.pure 12 (.pure 13 (.pure 14 (.pure 15 (.pure 16 (.pure 17 (.pure 18 .done))))))))))))))))))) (by kernel_rfl) ?_
  refine rw_p rfl rfl (y_loadA (s := 67) (vs := dlV oo nn H _ cs.length cq) rfl ag26 (hm.nt 0 rfl) rfl) ?_
  refine a_call rfl rfl rfl go30 (r5_few oo nn H q cq cs _ (hq.ext0 hm.to) hdl) fun v w hR => ?_
  obtain ⟨rfl, hE⟩ := hR
  refine ⟨trivial, ?_⟩
  replace hm := hm.ext hE
  refine rw_p rfl rfl (y_move rfl) ?_
  refine rw_g rfl rfl rfl (fun hc => (y_loadA (s := 67) (vs := dlV oo nn H _ cs.length cq) rfl ag26 (hm.nt 0 rfl) rfl)) ?_
  refine a_callG rfl rfl rfl (fun hc => (evs_c (gx hc rfl) evs_n)) go31 (fun hc => (r5_valid oo nn H q cq cs _ h1 h2 (hq.ext0 hm.to) hdl (fun c hc => okC.mono (hok c hc) hm.to))) trivial fun w hE hh => ?_
  replace hm := hm.ext hE
  refine rw_p rfl rfl (y_and rfl rfl rfl) ?_
  refine rw_p rfl rfl (y_move rfl) ?_
  refine rw_g rfl rfl rfl (fun hc => (y_fieldAddr rfl fo26_0)) ?_
  refine rw_g rfl rfl rfl (fun hc => (y_load (gx hc rfl) sc3 (hm.nt 0 rfl) rfl)) ?_
  refine rw_g rfl rfl rfl (fun hc => (y_move rfl)) ?_
  refine rw_g rfl rfl rfl (fun hc => (y_len (gx hc rfl) rfl sl22)) ?_
  refine rw_g rfl rfl rfl (fun hc => (y_eq (gx hc rfl) (gx hc rfl))) ?_
  refine rw_p rfl rfl (y_and rfl rfl rfl) ?_
  refine rw_p rfl rfl (y_move rfl) ?_
  refine rw_g rfl rfl rfl (fun hc => (y_fieldAddr rfl fo26_1)) ?_
  refine rw_g rfl rfl rfl (fun hc => (y_load (gx hc rfl) sc3 (hm.nt 0 rfl) rfl)) ?_
  refine rw_g rfl rfl rfl (fun hc => (y_le (gx hc rfl) rfl)) ?_
  refine rw_p rfl rfl (y_and rfl rfl rfl) ?_
  refine rw_p rfl rfl (y_assign rfl) ?_
  refine rw_done ?_
  refine gn_sq ?_
  refine HW_ret rfl ?_
  refine toR (fin hret rfl (.tmp rfl .nil) .one ?_)
  exact ⟨rfl, hm.to⟩

end Go.Proofs.YtaehgpeenaomcaaGreat
