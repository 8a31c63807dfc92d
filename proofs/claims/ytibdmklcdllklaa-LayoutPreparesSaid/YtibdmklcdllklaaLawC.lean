/- Contracts of functions of the program: what each returns. Conditions: the hypotheses of each theorem. -/
import Derived.Test.YtibdmklcdllklaaLawB
set_option linter.unusedVariables false
set_option linter.unusedSimpArgs false
namespace Go.Proofs.Ytibdmklcdllklaa
open Go Go.Cx

theorem fo58_1 : fldO Try.prog 58 1 = some 1 := by kernel_rfl
theorem go13 : isGo Try.prog 13 = true := by kernel_rfl
theorem go14 : isGo Try.prog 14 = true := by kernel_rfl
theorem go17 : isGo Try.prog 17 = true := by kernel_rfl
theorem go18 : isGo Try.prog 18 = true := by kernel_rfl
theorem pb50 : ptrB Try.prog 50 = true := by kernel_rfl

set_option maxHeartbeats 3200000 in
theorem law_prepares (s b o n : Int) (xt : Int) (q : Option Addr) (cq : Nat) (ps : List SB) (w0 : World) (hs : Pl.I64 s) (hb : Pl.I64 b) (ho : Pl.I64 o) (hn : Pl.I64 n) (hxt : Pl.I64 xt) (hq : Rd w0 q (ps.flatMap encS)) (hps : ∀ s ∈ ps, SB.ok w0 s) (hlen : ps.length ≤ 9223372036854775807) : C Try.prog 5 [.agg #[.int .i64 s, .int .i64 b, .int .i64 o, .int .i64 n], .int .i64 xt, .slice q ps.length cq] w0 fun v w' => v = .bool true ∧ Ext No w0 w' := by
  have hK1 := Pl.secs_bnd s 0 (max o n)
  have hK2 := Pl.slot_bnd s b
  have hK3 : Pl.layF s o n = (Pl.secs s 0 (max o n)).2 := rfl
  refine C_of Try.func5 rfl rfl rfl fun κ hret hnorm => ?_
  have hm := Mem.start w0
  refine HW_seq rfl ?_
  refine HW_text (.act 0 (.pure 1 .done)) (by kernel_rfl) ?_
  refine a_box rfl rfl rfl rfl hm trivial fun m1 w hg_m1 hm hh => ?_
  refine rw_p rfl rfl (y_assign rfl) ?_
  refine rw_done ?_
  refine gn_sq ?_
  refine HW_seq rfl ?_
  refine HW_text (.pure 0 (.pure 1 (.pure 2 (.pure 3 (.pure 4 (.pure 5 (.pure 6 (.pure 7 (.act 8 (.pure 9 (.pure 10 (.pure 11 (.act 12 (.act 13 (.pure 14 .done))))))))))))))) (by kernel_rfl) ?_
  refine rw_p rfl rfl (y_fieldAddr rfl fo23_0) ?_
  refine rw_p rfl rfl (y_load rfl sc3 (hm.nt 0 rfl) rfl) ?_
  refine rw_p rfl rfl (y_fieldAddr rfl fo23_1) ?_
  refine rw_p rfl rfl (y_load rfl sc3 (hm.nt 0 rfl) rfl) ?_
  refine rw_p rfl rfl (y_fieldAddr rfl fo23_2) ?_
  refine rw_p rfl rfl (y_load rfl sc3 (hm.nt 0 rfl) rfl) ?_
  refine rw_p rfl rfl (y_fieldAddr rfl fo23_3) ?_
  refine rw_p rfl rfl (y_load rfl sc3 (hm.nt 0 rfl) rfl) ?_
  refine a_call rfl rfl rfl go7 (y_for _ _ _ _ _ (by omega) (by omega) (by omega) (by omega)) fun v w hR => ?_
  obtain ⟨rfl, hE⟩ := hR
  refine ⟨trivial, ?_⟩
  replace hm := hm.ext hE
  refine rw_p rfl rfl (y_move rfl) ?_
  refine rw_p rfl rfl (y_extract rfl rfl) ?_
  refine rw_p rfl rfl (y_extract rfl rfl) ?_
  refine a_alloc rfl rfl z28 hm trivial fun m2 w hg_m2 hm hh => ?_
  refine a_store rfl rfl rfl rfl sz28 rfl hm 0 rfl rfl fun w hm => ?_
  refine rw_p rfl rfl (y_assign rfl) ?_
  refine rw_done ?_
  refine gn_sq ?_
  refine HW_seq rfl ?_
  refine HW_text (.pure 0 (.pure 1 (.pure 2 (.pure 3 (.pure 4 (.pure 5 (.pure 6 (.pure 7 (.act 8 (.pure 9 (.pure 10 (.pure 11 (.act 12 (.act 13 (.pure 14 .done))))))))))))))) (by kernel_rfl) ?_
  refine rw_p rfl rfl (y_fieldAddr rfl fo23_0) ?_
  refine rw_p rfl rfl (y_load rfl sc3 (hm.nt 1 rfl) rfl) ?_
  refine rw_p rfl rfl (y_fieldAddr rfl fo23_1) ?_
  refine rw_p rfl rfl (y_load rfl sc3 (hm.nt 1 rfl) rfl) ?_
  refine rw_p rfl rfl (y_fieldAddr rfl fo23_2) ?_
  refine rw_p rfl rfl (y_load rfl sc3 (hm.nt 1 rfl) rfl) ?_
  refine rw_p rfl rfl (y_fieldAddr rfl fo23_3) ?_
  refine rw_p rfl rfl (y_load rfl sc3 (hm.nt 1 rfl) rfl) ?_
  refine a_call rfl rfl rfl go8 (r23_for _ _ _ _ _ (by omega) (by omega) (by omega) (by omega)) fun v w hR => ?_
  obtain ⟨rfl, hE⟩ := hR
  refine ⟨trivial, ?_⟩
  replace hm := hm.ext hE
  refine rw_p rfl rfl (y_move rfl) ?_
  refine rw_p rfl rfl (y_extract rfl rfl) ?_
  refine rw_p rfl rfl (y_extract rfl rfl) ?_
  refine a_alloc rfl rfl z32 hm trivial fun m3 w hg_m3 hm hh => ?_
  refine a_store rfl rfl rfl rfl sz32 rfl hm 0 rfl rfl fun w hm => ?_
  refine rw_p rfl rfl (y_assign rfl) ?_
  refine rw_done ?_
  refine gn_sq ?_
  refine HW_seq rfl ?_
  refine HW_seq rfl ?_
  by_cases hE : Pl.layE s b o n = 0
  ·
    have hlv : layV s b o n = [.int .i64 s, .int .i64 b, .int .i64 0, .int .i64 (max o n), .int .i64 (Pl.layF s o n), .int .i64 (2 * Pl.slot s b), .int .i64 (Pl.layF s o n + 2 * Pl.slot s b)] := by unfold layV; rw [hE]; rfl
    rw [hlv] at hm
    refine HW_text (.pure 0 (.pure 1 (.pure 2 (.pure 3 (.pure 4 (.pure 5 (.pure 6 (.pure 7 (.pure 8 (.pure 9 (.pure 10 (.pure 11 (.pure 12 (.pure 13 (.pure 14 (.pure 15 (.pure 16 (.pure 17 (.pure 18 (.pure 19 (.pure 20 (.pure 21 (.pure 22 (.pure 23 (.pure 24 (.pure 25 (.pure 26 (.pure 27 (.pure 28 (.pure 29 (.pure 30 .done))))))))))))))))))))))))))))))) (by kernel_rfl) ?_
    refine rw_p rfl rfl (y_move rfl) ?_
    refine rw_p rfl rfl (y_as (c := false) (y_ne rfl rfl) (decide_eq_false (fun h => h hE))) ?_
    refine rw_p rfl rfl (y_move rfl) ?_
    refine rw_p rfl rfl (y_move rfl) ?_
    refine rw_p rfl rfl (y_move rfl) ?_
    refine rw_p rfl rfl (y_as (c := false) (y_ne rfl rfl) (decide_eq_false (fun h => h rfl))) ?_
    refine rw_p rfl rfl (y_pickF rfl rfl) ?_
    refine rw_p rfl rfl (y_move rfl) ?_
    refine rw_p rfl rfl (y_fieldAddr rfl fo32_4) ?_
    refine rw_p rfl rfl (y_load rfl sc3 (hm.nt 0 rfl) rfl) ?_
    refine rw_p rfl rfl (y_gt rfl rfl) ?_
    refine rw_p rfl rfl (y_move rfl) ?_
    refine rw_g rfl rfl rfl (fun hc => (y_fieldAddr rfl fo32_4)) ?_
    refine rw_g rfl rfl rfl (fun hc => (y_load (gx hc rfl) sc3 (hm.nt 0 rfl) rfl)) ?_
    refine rw_g rfl rfl rfl (fun hc => (y_fieldAddr rfl fo32_0)) ?_
    refine rw_g rfl rfl rfl (fun hc => (y_load (gx hc rfl) sc3 (hm.nt 0 rfl) rfl)) ?_
    refine rw_g rfl rfl rfl (fun hc => (y_min (gx hc rfl) rfl)) ?_
    refine rw_g rfl rfl rfl (fun hc => (y_mul (gx hc rfl) (gx hc rfl) rfl)) ?_
    refine rw_g rfl rfl rfl (fun hc => (y_lt (gx hc rfl) rfl)) ?_
    refine rw_p rfl rfl (y_and rfl rfl rfl) ?_
    refine rw_p rfl rfl (y_pickF rfl rfl) ?_
    refine rw_p rfl rfl (y_move rfl) ?_
    refine rw_g rfl rfl rfl (fun hc => (y_move rfl)) ?_
    refine rw_g rfl rfl rfl (fun hc => (y_len (gx hc rfl) rfl sl45)) ?_
    refine rw_g rfl rfl rfl (fun hc => (y_gt (gx hc rfl) rfl)) ?_
    refine rw_p rfl rfl (y_or rfl rfl rfl) ?_
    refine rw_p rfl rfl (y_move rfl) ?_
    refine rw_g rfl rfl rfl (fun hc => (y_fieldAddr rfl fo32_0)) ?_
    refine rw_g rfl rfl rfl (fun hc => (y_load (gx hc rfl) sc3 (hm.nt 0 rfl) rfl)) ?_
    refine rw_g rfl rfl rfl (fun hc => (y_gt (gx hc rfl) rfl)) ?_
    refine rw_p rfl rfl (y_or rfl rfl rfl) ?_
    refine rw_done ?_
    refine gn_sq ?_
    refine HW_cond rfl rfl (fun hc0 => ?_) (fun hc0 => ?_)
    ·
      refine HW_seq rfl ?_
      refine HW_text (.act 0 (.pure 1 (.pure 2 (.pure 3 (.pure 4 (.pure 5 (.pure 6 .done))))))) (by kernel_rfl) ?_
      refine a_call rfl rfl rfl go9 (law_alive _) fun v w hR => ?_
      obtain ⟨rfl, hE⟩ := hR
      refine ⟨trivial, ?_⟩
      replace hm := hm.ext hE
      refine rw_p rfl rfl (y_move rfl) ?_
      refine rw_p rfl rfl (y_move rfl) ?_
      refine rw_p rfl rfl (y_move rfl) ?_
      refine rw_p rfl rfl (y_as (c := true) (y_eq rfl rfl) (by simp)) ?_
      refine rw_p rfl rfl (y_pickT rfl rfl) ?_
      refine rw_p rfl rfl (y_assign rfl) ?_
      refine rw_done ?_
      refine gn_sq ?_
      refine HW_ret rfl ?_
      refine gr_sq ?_
      refine toR (fin hret rfl (.tmp rfl .nil) .one ?_)
      exact ⟨rfl, hm.to⟩
    ·
      simp only [Bool.or_eq_false_iff, decide_eq_false_iff_not] at hc0
      have h20 : ps.length ≤ 20 := by have := hc0.1.2; omega
      refine HW_skip rfl ?_
      refine gn_sq ?_
      refine HW_seq rfl ?_
      refine HW_text (.pure 0 .done) (by kernel_rfl) ?_
      refine rw_p rfl rfl (y_assign rfl) ?_
      replace hm := hm.gapIn
      have ha_o := Acc.nil 5 1 none 0
      refine rw_done ?_
      refine gn_sq ?_
      refine HW_seq rfl ?_
      refine HW_seq rfl ?_
      refine HW_text (.pure 0 (.pure 1 (.pure 2 .done))) (by kernel_rfl) ?_
      refine rw_p rfl rfl (y_move rfl) ?_
      refine rw_p rfl rfl (y_len rfl rfl sl45) ?_
      refine rw_p rfl rfl (y_move rfl) ?_
      refine rw_done ?_
      refine gn_sq ?_
      refine HW_block rfl ?_
      refine HW_loopK (ι := Nat × Ow) rfl (ks := [1, 2, 7, 9, 79, 80]) (.cons rfl (.cons rfl (.cons rfl (.cons rfl (.cons rfl (.cons rfl .nil)))))) (fun x => [(81, .int .i64 x.1), (11, .slice x.2.p x.2.n x.2.cap)]) (fun x w => Mem w0 w No [(x.2.g, x.2.b), (m3, .row 32 [.int .i64 s, .int .i64 b, .int .i64 0, .int .i64 (max o n), .int .i64 (Pl.layF s o n), .int .i64 (2 * Pl.slot s b), .int .i64 (Pl.layF s o n + 2 * Pl.slot s b)]), (m2, .row 28 [.int .i64 s, .int .i64 b, .int .i64 0, .int .i64 (max o n), .int .i64 (Pl.layF s o n), .int .i64 (2 * Pl.slot s b), .int .i64 (Pl.layF s o n + 2 * Pl.slot s b)]), (m1, .row 23 [.int .i64 s, .int .i64 b, .int .i64 o, .int .i64 n])] ∧ Acc 5 1 x.2.p x.2.n x.2.cap (((ps.take x.1).flatMap (·.bs)).flatMap encB) x.2.g x.2.b ∧ x.1 ≤ ps.length ∧ ((ps.take x.1).flatMap (·.bs)).length ≤ 200 * x.1) (fun x => ps.length - x.1) (0, ⟨none, 0, 0, 0, .gap⟩) (⟨hm, ha_o, Nat.zero_le _, Nat.le_refl _⟩) ⟨rfl, rfl, trivial⟩ (fun x w hM => ?_)
      obtain ⟨hm, ha_o, hk, hfl⟩ := hM
      refine HW_seq rfl ?_
      refine HW_text (.pure 0 .done) (by kernel_rfl) ?_
      refine rw_p rfl rfl (y_lt rfl rfl) ?_
      refine rw_done ?_
      refine gn_sq ?_
      refine HW_seq rfl ?_
      refine HW_cond rfl rfl (fun hc1 => ?_) (fun hc1 => ?_)
      ·
        simp only [decide_eq_true_eq] at hc1
        obtain ⟨e9, hi⟩ : ∃ y_, ps[x.1]? = some y_ := ⟨_, List.getElem?_eq_getElem (by omega)⟩
        obtain ⟨qb, qo, rfl⟩ := hq.atI encS_len (by decide) hi
        have hn := ha_o.lenB
        have hnx : ((ps.take (x.1 + 1)).flatMap (·.bs)).length = ((ps.take x.1).flatMap (·.bs)).length + e9.bs.length := by rw [List.take_add_one, hi]; simp
        refine HW_skip rfl ?_
        refine gn_sq ?_
        refine HW_seq rfl ?_
        refine HW_block rfl ?_
        refine HW_seq rfl ?_
        refine HW_text (.pure 0 (.pure 1 (.pure 2 .done))) (by kernel_rfl) ?_
        refine rw_p rfl rfl (y_index rfl rfl sl45 rfl (by omega) (by omega)) ?_
        refine rw_p rfl rfl (y_el1 rfl sc46 (hq.ext0 hm.to).nt encS_len hi rfl) ?_
        refine rw_p rfl rfl (y_assign rfl) ?_
        refine rw_done ?_
        refine gn_sq ?_
        refine HW_seq rfl ?_
        refine HW_seq rfl ?_
        refine HW_text (.pure 0 (.pure 1 (.pure 2 .done))) (by kernel_rfl) ?_
        refine rw_p rfl rfl (y_move rfl) ?_
        refine rw_p rfl rfl (y_len rfl rfl sl46) ?_
        refine rw_p rfl rfl (y_gt rfl rfl) ?_
        refine rw_done ?_
        refine gn_sq ?_
        refine HW_cond rfl rfl (fun hc2 => ?_) (fun hc2 => ?_)
        ·
          refine HW_seq rfl ?_
          refine HW_text (.act 0 (.pure 1 .done)) (by kernel_rfl) ?_
          refine a_call rfl rfl rfl go9 (law_alive _) fun v w hR => ?_
          obtain ⟨rfl, hE⟩ := hR
          refine ⟨trivial, ?_⟩
          replace hm := hm.ext hE
          refine rw_p rfl rfl (y_assign rfl) ?_
          refine rw_done ?_
          refine gn_sq ?_
          refine HW_ret rfl ?_
          refine gr_sq (gr_bl (gr_sq (gr_lp (gr_bl (gr_sq ?_)))))
          refine toR (fin hret rfl (.tmp rfl .nil) .one ?_)
          exact ⟨rfl, hm.to⟩
        ·
          simp only [decide_eq_false_iff_not] at hc2
          refine HW_skip rfl ?_
          refine gn_sq ?_
          refine HW_text (.pure 0 (.pure 1 (.act 2 (.pure 3 .done)))) (by kernel_rfl) ?_
          refine rw_p rfl rfl (y_move rfl) ?_
          refine rw_p rfl rfl (y_move rfl) ?_
          refine a_append rfl rfl rfl rfl rfl rfl sl46 sl46 z5 rfl (oneB e9.bs) ((hps e9 (List.mem_of_getElem? hi)).rd.ext0 hm.to) (lenB e9.bs) ha_o hm 0 rfl (by omega) (by omega) fun p_o cap_o g_o b_o w ha_o hm => ?_
          refine rw_p rfl rfl (y_assign rfl) ?_
          refine rw_done ?_
          refine gn_bl ?_
          refine gn_sq ?_
          refine HW_text (.pure 0 (.pure 1 .done)) (by kernel_rfl) ?_
          refine rw_p rfl rfl (y_add rfl rfl (i64w (by omega) (by omega))) ?_
          refine rw_p rfl rfl (y_move rfl) ?_
          refine rw_done ?_
          refine next (x.1 + 1, ⟨p_o, _, cap_o, g_o, b_o⟩) (by simp only; omega) ⟨hm, ha_o.to ?_, by simp only; omega, by simp only; omega⟩ ⟨nx x.1, rfl, rfl, rfl, rfl, rfl, rfl, rfl, trivial⟩
          simp only [List.take_add_one, hi, Option.toList, List.flatMap_append, List.flatMap_cons, List.flatMap_nil, List.append_nil]
      ·
        simp only [decide_eq_false_iff_not] at hc1
        have hke : x.1 = ps.length := by omega
        rw [hke, List.take_length] at ha_o
        rw [hke, List.take_length] at hfl
        have hn := ha_o.lenB
        refine HW_exit rfl ?_
        refine gx_sq (gx_lp ?_)
        refine gx_here ?_
        refine gn_sq ?_
        refine HW_seq rfl ?_
        obtain ⟨BB, hBB⟩ : ∃ B9, ps.flatMap (·.bs) = B9 := ⟨_, rfl⟩
        rw [hBB] at ha_o hn hfl
        have hBl : BB.length ≤ 4000 := by omega
        rcases prep3 s (Pl.layF s o n + 2 * Pl.slot s b) (max o n) xt BB.length hxt (by omega) (by omega) with hA | ⟨hA1, hA2, hB⟩ | ⟨hA1, hA2, hA3, a, c, rfl, hkc, hC⟩
        ·
          refine HW_text (.pure 0 (.pure 1 (.pure 2 (.act 3 (.pure 4 (.pure 5 (.pure 6 (.pure 7 (.pure 8 .done))))))))) (by kernel_rfl) ?_
          refine rw_p rfl rfl (y_loadA (s := 7) (vs := [_, _, _, _, _, _, _]) rfl ag28 (hm.nt 2 rfl) rfl) ?_
          refine rw_p rfl rfl (y_move rfl) ?_
          refine rw_p rfl rfl (y_move rfl) ?_
          refine a_call rfl rfl rfl go13 (y_prepA s b 0 (max o n) (Pl.layF s o n) (2 * Pl.slot s b) (Pl.layF s o n + 2 * Pl.slot s b) xt q cq ps BB _ (hq.ext0 hm.to) (fun s9 hs9 => (hps s9 hs9).rd.ext0 hm.to) (by omega) hBB (by omega) hA) fun v w hR => ?_
          obtain ⟨rfl, hE⟩ := hR
          refine ⟨trivial, ?_⟩
          replace hm := hm.ext hE
          refine rw_p rfl rfl (y_move rfl) ?_
          refine rw_p rfl rfl (y_extract rfl rfl) ?_
          refine rw_p rfl rfl (y_extract rfl rfl) ?_
          refine rw_p rfl rfl (y_assign rfl) ?_
          refine rw_p rfl rfl (y_assign rfl) ?_
          refine rw_done ?_
          refine gn_sq ?_
          refine HW_seq rfl ?_
          refine HW_text (.pure 0 (.pure 1 (.pure 2 (.act 3 (.pure 4 (.pure 5 (.pure 6 (.pure 7 (.pure 8 .done))))))))) (by kernel_rfl) ?_
          refine rw_p rfl rfl (y_loadA (s := 7) (vs := [_, _, _, _, _, _, _]) rfl ag32 (hm.nt 1 rfl) rfl) ?_
          refine rw_p rfl rfl (y_move rfl) ?_
          refine rw_p rfl rfl (y_move rfl) ?_
          refine a_call rfl rfl rfl go14 (C.eqv (r_prepA s b 0 (max o n) (Pl.layF s o n) (2 * Pl.slot s b) (Pl.layF s o n + 2 * Pl.slot s b) xt x.2.p x.2.cap BB _ (ha_o.rd hm 0 rfl) (by omega) hA) (by rw [← hn])) fun v w hR => ?_
          obtain ⟨rfl, hE⟩ := hR
          refine ⟨trivial, ?_⟩
          replace hm := hm.ext hE
          refine rw_p rfl rfl (y_move rfl) ?_
          refine rw_p rfl rfl (y_extract rfl rfl) ?_
          refine rw_p rfl rfl (y_extract rfl rfl) ?_
          refine rw_p rfl rfl (y_assign rfl) ?_
          refine rw_p rfl rfl (y_assign rfl) ?_
          refine rw_done ?_
          refine gn_sq ?_
          refine HW_seq rfl ?_
          refine HW_seq rfl ?_
          refine HW_text (.pure 0 (.pure 1 .done)) (by kernel_rfl) ?_
          refine rw_p rfl rfl (y_move rfl) ?_
          refine rw_p rfl rfl (y_pnil rfl rfl pb50) ?_
          refine rw_done ?_
          refine gn_sq ?_
          refine HW_condT rfl rfl rfl ?_
          refine HW_seq rfl ?_
          refine HW_text (.act 0 (.pure 1 (.pure 2 (.pure 3 (.pure 4 (.pure 5 (.pure 6 (.pure 7 (.pure 8 (.pure 9 (.pure 10 .done))))))))))) (by kernel_rfl) ?_
          refine a_call rfl rfl rfl go9 (law_alive _) fun v w hR => ?_
          obtain ⟨rfl, hE⟩ := hR
          refine ⟨trivial, ?_⟩
          replace hm := hm.ext hE
          refine rw_p rfl rfl (y_move rfl) ?_
          refine rw_p rfl rfl (y_move rfl) ?_
          refine rw_p rfl rfl (y_pnil rfl rfl pb47) ?_
          refine rw_p rfl rfl (y_pickT rfl rfl) ?_
          refine rw_p rfl rfl (y_move rfl) ?_
          refine rw_p rfl rfl (y_move rfl) ?_
          refine rw_p rfl rfl (y_move rfl) ?_
          refine rw_p rfl rfl (y_as (c := true) (y_eq rfl rfl) (by decide)) ?_
          refine rw_p rfl rfl (y_pickT rfl rfl) ?_
          refine rw_p rfl rfl (y_assign rfl) ?_
          refine rw_done ?_
          refine gn_sq ?_
          refine HW_ret rfl ?_
          refine gr_sq ?_
          refine toR (fin hret rfl (.tmp rfl .nil) .one ?_)
          exact ⟨rfl, hm.to⟩
        ·
          refine HW_text (.pure 0 (.pure 1 (.pure 2 (.act 3 (.pure 4 (.pure 5 (.pure 6 (.pure 7 (.pure 8 .done))))))))) (by kernel_rfl) ?_
          refine rw_p rfl rfl (y_loadA (s := 7) (vs := [_, _, _, _, _, _, _]) rfl ag28 (hm.nt 2 rfl) rfl) ?_
          refine rw_p rfl rfl (y_move rfl) ?_
          refine rw_p rfl rfl (y_move rfl) ?_
          refine a_call rfl rfl rfl go13 (y_prepB s b 0 (max o n) (Pl.layF s o n) (2 * Pl.slot s b) (Pl.layF s o n + 2 * Pl.slot s b) xt q cq ps BB _ (hq.ext0 hm.to) (fun s9 hs9 => (hps s9 hs9).rd.ext0 hm.to) (by omega) hBB (by omega) hA1 hA2 hB) fun v w hR => ?_
          obtain ⟨rfl, hE⟩ := hR
          refine ⟨trivial, ?_⟩
          replace hm := hm.ext hE
          refine rw_p rfl rfl (y_move rfl) ?_
          refine rw_p rfl rfl (y_extract rfl rfl) ?_
          refine rw_p rfl rfl (y_extract rfl rfl) ?_
          refine rw_p rfl rfl (y_assign rfl) ?_
          refine rw_p rfl rfl (y_assign rfl) ?_
          refine rw_done ?_
          refine gn_sq ?_
          refine HW_seq rfl ?_
          refine HW_text (.pure 0 (.pure 1 (.pure 2 (.act 3 (.pure 4 (.pure 5 (.pure 6 (.pure 7 (.pure 8 .done))))))))) (by kernel_rfl) ?_
          refine rw_p rfl rfl (y_loadA (s := 7) (vs := [_, _, _, _, _, _, _]) rfl ag32 (hm.nt 1 rfl) rfl) ?_
          refine rw_p rfl rfl (y_move rfl) ?_
          refine rw_p rfl rfl (y_move rfl) ?_
          refine a_call rfl rfl rfl go14 (C.eqv (r_prepB s b 0 (max o n) (Pl.layF s o n) (2 * Pl.slot s b) (Pl.layF s o n + 2 * Pl.slot s b) xt x.2.p x.2.cap BB _ (ha_o.rd hm 0 rfl) (by omega) hA1 hA2 hB) (by rw [← hn])) fun v w hR => ?_
          obtain ⟨rfl, hE⟩ := hR
          refine ⟨trivial, ?_⟩
          replace hm := hm.ext hE
          refine rw_p rfl rfl (y_move rfl) ?_
          refine rw_p rfl rfl (y_extract rfl rfl) ?_
          refine rw_p rfl rfl (y_extract rfl rfl) ?_
          refine rw_p rfl rfl (y_assign rfl) ?_
          refine rw_p rfl rfl (y_assign rfl) ?_
          refine rw_done ?_
          refine gn_sq ?_
          refine HW_seq rfl ?_
          refine HW_seq rfl ?_
          refine HW_text (.pure 0 (.pure 1 .done)) (by kernel_rfl) ?_
          refine rw_p rfl rfl (y_move rfl) ?_
          refine rw_p rfl rfl (y_pnil rfl rfl pb50) ?_
          refine rw_done ?_
          refine gn_sq ?_
          refine HW_condT rfl rfl rfl ?_
          refine HW_seq rfl ?_
          refine HW_text (.act 0 (.pure 1 (.pure 2 (.pure 3 (.pure 4 (.pure 5 (.pure 6 (.pure 7 (.pure 8 (.pure 9 (.pure 10 .done))))))))))) (by kernel_rfl) ?_
          refine a_call rfl rfl rfl go9 (law_alive _) fun v w hR => ?_
          obtain ⟨rfl, hE⟩ := hR
          refine ⟨trivial, ?_⟩
          replace hm := hm.ext hE
          refine rw_p rfl rfl (y_move rfl) ?_
          refine rw_p rfl rfl (y_move rfl) ?_
          refine rw_p rfl rfl (y_pnil rfl rfl pb47) ?_
          refine rw_p rfl rfl (y_pickT rfl rfl) ?_
          refine rw_p rfl rfl (y_move rfl) ?_
          refine rw_p rfl rfl (y_move rfl) ?_
          refine rw_p rfl rfl (y_move rfl) ?_
          refine rw_p rfl rfl (y_as (c := true) (y_eq rfl rfl) (by decide)) ?_
          refine rw_p rfl rfl (y_pickT rfl rfl) ?_
          refine rw_p rfl rfl (y_assign rfl) ?_
          refine rw_done ?_
          refine gn_sq ?_
          refine HW_ret rfl ?_
          refine gr_sq ?_
          refine toR (fin hret rfl (.tmp rfl .nil) .one ?_)
          exact ⟨rfl, hm.to⟩
        ·
          refine HW_text (.pure 0 (.pure 1 (.pure 2 (.act 3 (.pure 4 (.pure 5 (.pure 6 (.pure 7 (.pure 8 .done))))))))) (by kernel_rfl) ?_
          refine rw_p rfl rfl (y_loadA (s := 7) (vs := [_, _, _, _, _, _, _]) rfl ag28 (hm.nt 2 rfl) rfl) ?_
          refine rw_p rfl rfl (y_move rfl) ?_
          refine rw_p rfl rfl (y_move rfl) ?_
          refine a_call rfl rfl rfl go13 (y_prepC a c b 0 (max o n) (Pl.layF (a : Int) o n) (2 * Pl.slot (a : Int) b) (Pl.layF (a : Int) o n + 2 * Pl.slot (a : Int) b) xt q cq ps BB _ (hq.ext0 hm.to) (fun s9 hs9 => (hps s9 hs9).rd.ext0 hm.to) (by omega) hBB (by omega) hA1 hA2 hkc hC) fun v w hR => ?_
          obtain ⟨m, Zw, rfl, hz, hmc⟩ := hR
          refine ⟨trivial, ?_⟩
          replace hm := hm.callTZ hmc
          refine rw_p rfl rfl (y_move rfl) ?_
          refine rw_p rfl rfl (y_extract rfl rfl) ?_
          refine rw_p rfl rfl (y_extract rfl rfl) ?_
          refine rw_p rfl rfl (y_assign rfl) ?_
          refine rw_p rfl rfl (y_assign rfl) ?_
          refine rw_done ?_
          refine gn_sq ?_
          refine HW_seq rfl ?_
          refine HW_text (.pure 0 (.pure 1 (.pure 2 (.act 3 (.pure 4 (.pure 5 (.pure 6 (.pure 7 (.pure 8 .done))))))))) (by kernel_rfl) ?_
          refine rw_p rfl rfl (y_loadA (s := 7) (vs := [_, _, _, _, _, _, _]) rfl ag32 (hm.nt 1 rfl) rfl) ?_
          refine rw_p rfl rfl (y_move rfl) ?_
          refine rw_p rfl rfl (y_move rfl) ?_
          refine a_call rfl rfl rfl go14 (C.eqv (r_prepC a c b 0 (max o n) (Pl.layF (a : Int) o n) (2 * Pl.slot (a : Int) b) (Pl.layF (a : Int) o n + 2 * Pl.slot (a : Int) b) xt x.2.p x.2.cap BB _ (ha_o.rd hm 0 rfl) (by omega) hA1 hA2 hA3 hkc hC) (by rw [← hn])) fun v w hR => ?_
          obtain ⟨mr, Zr, rfl, hy, hmc⟩ := hR
          refine ⟨trivial, ?_⟩
          replace hm := Mem.callT2 (A := [_, _, _, _]) hm hmc
          refine rw_p rfl rfl (y_move rfl) ?_
          refine rw_p rfl rfl (y_extract rfl rfl) ?_
          refine rw_p rfl rfl (y_extract rfl rfl) ?_
          refine rw_p rfl rfl (y_assign rfl) ?_
          refine rw_p rfl rfl (y_assign rfl) ?_
          refine rw_done ?_
          refine gn_sq ?_
          refine HW_seq rfl ?_
          refine HW_seq rfl ?_
          refine HW_text (.pure 0 (.pure 1 .done)) (by kernel_rfl) ?_
          refine rw_p rfl rfl (y_move rfl) ?_
          refine rw_p rfl rfl (y_pnil rfl rfl pb50) ?_
          refine rw_done ?_
          refine gn_sq ?_
          refine HW_condF rfl rfl rfl ?_
          refine HW_skip rfl ?_
          refine gn_sq ?_
          refine HW_seq rfl ?_
          refine HW_draw (.act 0 (.pure 1 (.pure 2 (.pure 3 (.pure 4 (.pure 5 (.pure 6 (.pure 7 (.act 8 (.pure 9 (.pure 10 (.pure 11 (.pure 12 (.pure 14 (.pure 15 (.pure 16 (.pure 17 (.act 13 (.pure 18 (.pure 19 (.pure 20 (.pure 21 (.pure 23 (.pure 24 (.pure 25 (.pure 26 (.act 22 (.cut (.act 27 (.pure 28 (.pure 29 .done))))))))))))))))))))))))))))))) No mix (by kernel_rfl) hm fun w hw hm0 hh => ?_
          have hm := hm0
          obtain ⟨qB_, kB_, qC_, kC_, cs, hPy, hd9, hp9, hw9⟩ := hy.row (OwnZ.end (A := [_, _, _, _]) hm.ownZ)
          have hl9 : (Pl.nDv a c BB).dk.length ≤ 1048576 := by rw [hz.ok.len]; exact hz.ok.max
          refine a_call rfl rfl rfl go9 (law_alive _) fun v w hR => ?_
          obtain ⟨rfl, hE⟩ := hR
          refine ⟨hh.ext hE, ?_⟩
          replace hm := hm.ext hE
          replace hh := hh.ext hE
          refine rw_p rfl rfl (y_move rfl) ?_
          refine rw_p rfl rfl (y_move rfl) ?_
          refine rw_p rfl rfl (y_as (c := true) (y_eq rfl rfl) (by decide)) ?_
          refine rw_p rfl rfl (y_pickT rfl rfl) ?_
          refine rw_p rfl rfl (y_move rfl) ?_
          refine rw_p rfl rfl (y_loadA (s := 7) (vs := [_, _, _, _, _, _, _]) rfl ag28 (hm0.nd 2 rfl id) rfl) ?_
          refine rw_p rfl rfl (y_move rfl) ?_
          refine a_call rfl rfl rfl go15 (y_check (Pl.nDv a c BB) m _ _ (OwnZ.mid (A := [_, _, _, _]) hm.ownZ) hz b 0 (max o n) (Pl.layF a o n) (2 * Pl.slot a b) (Pl.layF a o n + 2 * Pl.slot a b) (show _ ≤ (c : Int) by omega)) fun v w hR => ?_
          obtain ⟨rfl, hE⟩ := hR
          refine ⟨hh.ext hE, ?_⟩
          replace hm := hm.ext hE
          replace hh := hh.ext hE
          refine rw_p rfl rfl (y_as (c := true) (y_eq rfl rfl) (by decide)) ?_
          refine rw_p rfl rfl (y_pickT rfl rfl) ?_
          refine rw_p rfl rfl (y_move rfl) ?_
          refine rw_p rfl rfl (y_move rfl) ?_
          refine rw_p rfl rfl (y_move rfl) ?_
          refine rw_p rfl rfl (y_nil rfl) ?_
          refine rw_p rfl rfl (y_fieldAddr rfl fo58_1) ?_
          refine rw_p rfl rfl (y_load rfl sc3 (fun u hu => (Ext.same hu _ (Array.getElem?_eq_some_iff.1 hPy).1 id).trans hPy) rfl) ?_
          refine a_call rfl rfl rfl go16 (o_sectors (Pl.nDv a c BB) m _ _ (OwnZ.mid (A := [_, _, _, _]) hm.ownZ) hz) fun v w hR => ?_
          obtain ⟨rfl, hE⟩ := hR
          refine ⟨hh.ext hE, ?_⟩
          replace hm := hm.ext hE
          replace hh := hh.ext hE
          refine rw_p rfl rfl (y_as (c := true) (y_eq rfl rfl) (decide_eq_true rfl)) ?_
          refine rw_p rfl rfl (y_pickT rfl rfl) ?_
          refine rw_p rfl rfl (y_move rfl) ?_
          refine rw_p rfl rfl (y_move rfl) ?_
          refine rw_p rfl rfl (y_move rfl) ?_
          refine rw_p rfl rfl (y_nil rfl) ?_
          refine rw_p rfl rfl (y_fieldAddr rfl fo58_2) ?_
          refine rw_p rfl rfl (y_load rfl sc46 (fun u hu => (Ext.same hu _ (Array.getElem?_eq_some_iff.1 hPy).1 id).trans hPy) rfl) ?_
          refine a_call rfl rfl rfl go18 (o_disk (Pl.nDv a c BB) m _ _ (OwnZ.mid (A := [_, _, _, _]) hm.ownZ) hz) fun v w hR => ?_
          obtain ⟨p_v, cap_v, g_v, b_v, rfl, ha_v, hmc⟩ := hR
          refine ⟨hh.ext hmc.to, ?_⟩
          have hg_v : b_v.real = true → _ := fun hr => (hmc.fresh _ List.mem_cons_self hr).resolve_left id
          replace hh := hh.ext hmc.to
          replace hm := hm.callN hmc
          refine a_cut ?_
          refine a_call rfl rfl rfl go17 (C.as (v := .bool true) (eq_b p_v qB_ cap_v kB_ (Pl.nDv a c BB).dk (Pl.nDv a c BB).dk _ (ha_v.rd hm 0 rfl) (hd9.rd (hm.pickT [] 5 rfl) (fun e he => show e ∈ Zw ++ Zr from List.mem_append_right _ he)) (by omega) (by omega)) (congrArg Value.bool (decide_eq_true rfl))) fun v w hR => ?_
          obtain ⟨rfl, hE⟩ := hR
          refine ⟨trivial, ?_⟩
          replace hm := hm.ext hE
          refine rw_p rfl rfl (y_pickT rfl rfl) ?_
          refine rw_p rfl rfl (y_assign rfl) ?_
          refine rw_done ?_
          refine gn_sq ?_
          refine HW_ret rfl ?_
          refine toR (fin hret rfl (.tmp rfl .nil) .one ?_)
          exact ⟨rfl, hm.to⟩
  ·
    refine HW_text (.pure 0 (.pure 1 (.pure 2 (.pure 3 (.pure 4 (.pure 5 (.pure 6 (.pure 7 (.pure 8 (.pure 9 (.pure 10 (.pure 11 (.pure 12 (.pure 13 (.pure 14 (.pure 15 (.pure 16 (.pure 17 (.pure 18 (.pure 19 (.pure 20 (.pure 21 (.pure 22 (.pure 23 (.pure 24 (.pure 25 (.pure 26 (.pure 27 (.pure 28 (.pure 29 (.pure 30 .done))))))))))))))))))))))))))))))) (by kernel_rfl) ?_
    refine rw_p rfl rfl (y_move rfl) ?_
    refine rw_p rfl rfl (y_as (c := true) (y_ne rfl rfl) (decide_eq_true hE)) ?_
    refine rw_p rfl rfl (y_move rfl) ?_
    refine rw_gf rfl rfl (by decide) rfl ?_
    refine rw_gf rfl rfl (by decide) rfl ?_
    refine rw_gf rfl rfl (by decide) rfl ?_
    refine rw_p rfl rfl (y_pickT rfl rfl) ?_
    refine rw_p rfl rfl (y_move rfl) ?_
    refine rw_gf rfl rfl (by decide) rfl ?_
    refine rw_gf rfl rfl (by decide) rfl ?_
    refine rw_gf rfl rfl (by decide) rfl ?_
    refine rw_gf rfl rfl (by decide) rfl ?_
    refine rw_gu rfl rfl rfl ?_
    refine rw_gu rfl rfl rfl ?_
    refine rw_gu rfl rfl rfl ?_
    refine rw_gu rfl rfl rfl ?_
    refine rw_gu rfl rfl rfl ?_
    refine rw_gu rfl rfl rfl ?_
    refine rw_gu rfl rfl rfl ?_
    refine rw_gf rfl rfl (by decide) rfl ?_
    refine rw_p rfl rfl (y_pickT rfl rfl) ?_
    refine rw_p rfl rfl (y_move rfl) ?_
    refine rw_gf rfl rfl (by decide) rfl ?_
    refine rw_gf rfl rfl (by decide) rfl ?_
    refine rw_gf rfl rfl (by decide) rfl ?_
    refine rw_p rfl rfl (y_pickT rfl rfl) ?_
    refine rw_p rfl rfl (y_move rfl) ?_
    refine rw_gf rfl rfl (by decide) rfl ?_
    refine rw_gf rfl rfl (by decide) rfl ?_
    refine rw_gf rfl rfl (by decide) rfl ?_
    refine rw_p rfl rfl (y_pickT rfl rfl) ?_
    refine rw_done ?_
    refine gn_sq ?_
    refine HW_condT rfl rfl rfl ?_
    refine HW_seq rfl ?_
    refine HW_text (.act 0 (.pure 1 (.pure 2 (.pure 3 (.pure 4 (.pure 5 (.pure 6 .done))))))) (by kernel_rfl) ?_
    refine a_call rfl rfl rfl go9 (law_alive _) fun v w hR => ?_
    obtain ⟨rfl, hE⟩ := hR
    refine ⟨trivial, ?_⟩
    replace hm := hm.ext hE
    refine rw_p rfl rfl (y_move rfl) ?_
    refine rw_p rfl rfl (y_move rfl) ?_
    refine rw_p rfl rfl (y_move rfl) ?_
    refine rw_p rfl rfl (y_as (c := true) (y_eq rfl rfl) (by simp)) ?_
    refine rw_p rfl rfl (y_pickT rfl rfl) ?_
    refine rw_p rfl rfl (y_assign rfl) ?_
    refine rw_done ?_
    refine gn_sq ?_
    refine HW_ret rfl ?_
    refine gr_sq ?_
    refine toR (fin hret rfl (.tmp rfl .nil) .one ?_)
    exact ⟨rfl, hm.to⟩

end Go.Proofs.Ytibdmklcdllklaa
