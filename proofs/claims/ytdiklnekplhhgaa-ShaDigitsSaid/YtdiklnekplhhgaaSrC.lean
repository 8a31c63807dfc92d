/- Contracts of functions of the program: what each returns. Conditions: the hypotheses of each theorem. -/
import Derived.Test.YtdiklnekplhhgaaSrB
set_option linter.unusedVariables false
set_option linter.unusedSimpArgs false
namespace Go.Proofs.Ytdiklnekplhhgaa
open Go Go.Cx

theorem sl65 : slcO Try.prog 65 = some (63, 1, 8) := by kernel_rfl
theorem z63 : zer Try.prog 63 = some [.int .u64 0] := by kernel_rfl
theorem go37 : isGo Try.prog 37 = true := by kernel_rfl
theorem go38 : isGo Try.prog 38 = true := by kernel_rfl
theorem z48 : zer Try.prog 48 = some [.int .u32 0] := by kernel_rfl
theorem ag46 : aggS Try.prog 46 = some 2 := by kernel_rfl
theorem ft46 : fldT Try.prog 46 = some [(0, 1), (1, 1)] := by kernel_rfl
theorem go33 : isGo Try.prog 33 = true := by kernel_rfl
theorem sz46 : szO Try.prog 46 = some 2 := by kernel_rfl
theorem z46 : zer Try.prog 46 = some [.slice none 0 0, .slice none 0 0] := by kernel_rfl

set_option maxHeartbeats 800000 in
theorem r2_primes (n : Nat) (w0 : World) (hn : n ≤ 64) : C Try.prog 37 [.int .i64 (n : Int)] w0 fun v w' => ∃ p c g b, v = .slice p n c ∧ Acc 63 1 p n c ((Pl.prs.take n).flatMap encU) g b ∧ Mem w0 w' No [(g, b)] := by
  refine C_of Try.func37 rfl rfl rfl fun κ hret hnorm => ?_
  have hm := Mem.start w0
  refine HW_seq rfl ?_
  refine HW_text (.pure 0 .done) (by kernel_rfl) ?_
  refine rw_p rfl rfl (y_assign rfl) ?_
  refine rw_done ?_
  refine gn_sq ?_
  refine HW_seq rfl ?_
  refine HW_text (.pure 0 .done) (by kernel_rfl) ?_
  refine rw_p rfl rfl (y_assign rfl) ?_
  replace hm := hm.gapIn
  have ha_s := Acc.nil 63 1 none 0
  refine rw_done ?_
  refine gn_sq ?_
  refine HW_seq rfl ?_
  refine HW_seq rfl ?_
  refine HW_text (.pure 0 .done) (by kernel_rfl) ?_
  refine rw_p rfl rfl (y_assign rfl) ?_
  refine rw_done ?_
  refine gn_sq ?_
  refine HW_block rfl ?_
  refine HW_loopK (ι := Nat × Option Addr × Nat × Nat × Blk) rfl (ks := [0, 2]) (.cons rfl (.cons rfl .nil)) (fun x => [(4, .int .u64 ((x.1 + 2 : Nat) : Int)), (3, .slice x.2.1 (Pl.pr x.1).length x.2.2.1)]) (fun x w => Mem w0 w No [(x.2.2.2.1, x.2.2.2.2)] ∧ Acc 63 1 x.2.1 (Pl.pr x.1).length x.2.2.1 ((Pl.pr x.1).flatMap encU) x.2.2.2.1 x.2.2.2.2 ∧ x.1 ≤ 310 ∧ (Pl.pr x.1).length ≤ n) (fun x => 310 - x.1) (0, none, 0, 0, .gap) (⟨hm, ha_s, by decide, Nat.zero_le _⟩) ⟨rfl, rfl, trivial⟩ (fun x w hM => ?_)
  obtain ⟨hm, ha_s, hk, hin⟩ := hM
  refine HW_seq rfl ?_
  refine HW_seq rfl ?_
  refine HW_text (.pure 0 (.pure 1 (.pure 2 (.pure 3 .done)))) (by kernel_rfl) ?_
  refine rw_p rfl rfl (y_move rfl) ?_
  refine rw_p rfl rfl (y_len rfl rfl sl65) ?_
  refine rw_p rfl rfl (y_move rfl) ?_
  refine rw_p rfl rfl (y_lt rfl rfl) ?_
  refine rw_done ?_
  refine gn_sq ?_
  refine HW_cond rfl rfl (fun hc0 => ?_) (fun hc0 => ?_)
  ·
    obtain ⟨i, p_s, cap_s, g_s, b_s⟩ := x
    simp only at hm ha_s hk hin hc0 ⊢
    simp only [decide_eq_true_eq] at hc0
    have hil := Pl.pr_lt hn (i := i) (by omega)
    have hpos := Pl.pr_pos i
    have hin2 : (Pl.pr i).length + 1 ≤ n := by omega
    refine HW_skip rfl ?_
    refine gn_sq ?_
    refine HW_seq rfl ?_
    refine HW_block rfl ?_
    refine HW_seq rfl ?_
    refine HW_text (.pure 0 .done) (by kernel_rfl) ?_
    refine rw_p rfl rfl (y_assign rfl) ?_
    refine rw_done ?_
    refine gn_sq ?_
    refine HW_seq rfl ?_
    refine HW_seq rfl ?_
    refine HW_text (.pure 0 .done) (by kernel_rfl) ?_
    refine rw_p rfl rfl (y_assign rfl) ?_
    refine rw_done ?_
    refine gn_sq ?_
    refine HW_block rfl ?_
    refine HW_loopK (ι := Nat) rfl (ks := [0, 2, 3, 4]) (.cons rfl (.cons rfl (.cons rfl (.cons rfl .nil)))) (fun k => [(6, .int .i64 k), (5, .bool (((Pl.pr i).take k).all (fun q => !Nat.beq ((i + 2) % q) 0)))]) (fun k w => Mem w0 w No [(g_s, b_s)] ∧ k ≤ (Pl.pr i).length) (fun k => (Pl.pr i).length - k) 0 (⟨hm, Nat.zero_le _⟩) ⟨rfl, rfl, trivial⟩ (fun k w hM => ?_)
    obtain ⟨hm, hk1⟩ := hM
    refine HW_seq rfl ?_
    refine HW_seq rfl ?_
    refine HW_text (.pure 0 (.pure 1 (.pure 2 (.pure 3 .done)))) (by kernel_rfl) ?_
    refine rw_p rfl rfl (y_move rfl) ?_
    refine rw_p rfl rfl (y_move rfl) ?_
    refine rw_p rfl rfl (y_len rfl rfl sl65) ?_
    refine rw_p rfl rfl (y_lt rfl rfl) ?_
    refine rw_done ?_
    refine gn_sq ?_
    refine HW_cond rfl rfl (fun hc1 => ?_) (fun hc1 => ?_)
    ·
      simp only [decide_eq_true_eq] at hc1
      obtain ⟨q, hi⟩ : ∃ y_, (Pl.pr i)[k]? = some y_ := ⟨_, List.getElem?_eq_getElem (by omega)⟩
      have hq2 := hpos q (List.mem_of_getElem? hi)
      obtain ⟨b2, o2, hp2⟩ := (ha_s.rd hm 0 rfl).atI encU_len (by decide) hi
      have hta : ((Pl.pr i).take (k + 1)).all (fun q => !Nat.beq ((i + 2) % q) 0) = (((Pl.pr i).take k).all (fun q => !Nat.beq ((i + 2) % q) 0) && !Nat.beq ((i + 2) % q) 0) := by rw [Pl.take_snoc hi, List.all_append]; simp
      refine HW_skip rfl ?_
      refine gn_sq ?_
      refine HW_seq rfl ?_
      refine HW_block rfl ?_
      refine HW_seq rfl ?_
      refine HW_text (.pure 0 (.pure 1 (.pure 2 (.pure 3 (.pure 4 (.pure 5 (.pure 6 .done))))))) (by kernel_rfl) ?_
      refine rw_p rfl rfl (y_move rfl) ?_
      refine rw_p rfl rfl (y_move rfl) ?_
      refine rw_p rfl rfl (y_move rfl) ?_
      refine rw_p rfl rfl (y_index rfl rfl sl65 (ha_s.ptr (by omega)) (by omega) (by omega)) ?_
      refine rw_p rfl rfl (y_el1 rfl sc63 ((ha_s.ptr (by omega)) ▸ ha_s.rd hm 0 rfl).nt encU_len hi rfl) ?_
      refine rw_p rfl rfl (y_rem rfl rfl (by omega) (remK (i + 2) q)) ?_
      refine rw_p rfl rfl (y_eq rfl rfl) ?_
      refine rw_done ?_
      refine gn_sq ?_
      refine HW_cond rfl rfl (fun hc2 => ?_) (fun hc2 => ?_)
      ·
        simp only [decide_eq_true_eq] at hc2
        replace hc2 : (i + 2) % q = 0 := by omega
        have hbq : Nat.beq ((i + 2) % q) 0 = true := by rw [hc2]; rfl
        refine HW_text (.pure 0 .done) (by kernel_rfl) ?_
        refine rw_p rfl rfl (y_assign rfl) ?_
        refine rw_done ?_
        refine gn_bl ?_
        refine gn_sq ?_
        refine HW_text (.pure 0 (.pure 1 (.pure 2 .done))) (by kernel_rfl) ?_
        refine rw_p rfl rfl (y_move rfl) ?_
        refine rw_p rfl rfl (y_add rfl rfl (i64w (by omega) (by omega))) ?_
        refine rw_p rfl rfl (y_assign rfl) ?_
        refine rw_done ?_
        exact next (k + 1) (by omega) ⟨hm, by omega⟩ ⟨nx k, by rw [hta]; exact congrArg (fun z => some (Value.bool z)) (by simp [hbq]), rfl, rfl, rfl, rfl, trivial⟩
      ·
        simp only [decide_eq_false_iff_not] at hc2
        replace hc2 : ¬ (i + 2) % q = 0 := by omega
        have hbq : Nat.beq ((i + 2) % q) 0 = false := by rw [Bool.eq_false_iff]; exact fun h => hc2 (Nat.eq_of_beq_eq_true h)
        refine HW_skip rfl ?_
        refine gn_bl ?_
        refine gn_sq ?_
        refine HW_text (.pure 0 (.pure 1 (.pure 2 .done))) (by kernel_rfl) ?_
        refine rw_p rfl rfl (y_move rfl) ?_
        refine rw_p rfl rfl (y_add rfl rfl (i64w (by omega) (by omega))) ?_
        refine rw_p rfl rfl (y_assign rfl) ?_
        refine rw_done ?_
        exact next (k + 1) (by omega) ⟨hm, by omega⟩ ⟨nx k, by rw [hta]; exact congrArg (fun z => some (Value.bool z)) (by simp [hbq]), rfl, rfl, rfl, rfl, trivial⟩
    ·
      simp only [decide_eq_false_iff_not] at hc1
      obtain rfl : k = (Pl.pr i).length := by omega
      rw [List.take_length]
      refine HW_exit rfl ?_
      refine gx_sq (gx_lp ?_)
      refine gx_here ?_
      refine gn_sq ?_
      refine HW_seq rfl ?_
      refine HW_text (.pure 0 .done) (by kernel_rfl) ?_
      refine rw_p rfl rfl (y_move rfl) ?_
      refine rw_done ?_
      refine gn_sq ?_
      refine HW_cond rfl rfl (fun hc3 => ?_) (fun hc3 => ?_)
      ·
        have hpn : Pl.pr (i + 1) = Pl.pr i ++ [i + 2] := by simp only [Pl.pr]; rw [hc3]; rfl
        refine HW_text (.pure 0 (.pure 1 (.act 2 (.act 3 (.pure 4 .done))))) (by kernel_rfl) ?_
        refine rw_p rfl rfl (y_move rfl) ?_
        refine rw_p rfl rfl (y_move rfl) ?_
        refine a_buildSlice (l := [_]) rfl rfl sl65 z63 rfl rfl rfl rfl rfl rfl rfl hm trivial fun m1 w hg_m1 hm hh => ?_
        refine a_append rfl rfl rfl rfl rfl rfl sl65 sl65 z63 rfl rfl (Rd.row0 (hm.get (k := 0) rfl)) rfl ha_s hm 1 rfl (by omega) (by omega) fun p_s cap_s g_s b_s w ha_s hm => ?_
        replace ha_s := ha_s.to (show _ = (Pl.pr i ++ [i + 2]).flatMap encU by rw [List.flatMap_append]; rfl)
        have hne : (Pl.pr i).length + 1 = (Pl.pr i ++ [i + 2]).length := by rw [List.length_append]; rfl
        refine rw_p rfl rfl (y_assign rfl) ?_
        refine rw_done ?_
        refine gn_bl ?_
        refine gn_sq ?_
        refine HW_text (.pure 0 (.pure 1 (.pure 2 .done))) (by kernel_rfl) ?_
        refine rw_p rfl rfl (y_move rfl) ?_
        refine rw_p rfl rfl (y_add rfl rfl (u_add (a := i + 2) (b := 1) (by omega))) ?_
        refine rw_p rfl rfl (y_assign rfl) ?_
        refine rw_done ?_
        first | exact next (i + 1, p_s, cap_s, g_s, b_s) (by simp only; omega) ⟨(hm.pick [1] rfl), by simp only [hpn]; rw [← hne]; exact ha_s, by simp only; omega, by simp only [hpn]; rw [List.length_append]; exact hin2⟩ ⟨rfl, by show some (Value.slice p_s ((Pl.pr i).length + 1) cap_s) = some (.slice p_s (Pl.pr (i + 1)).length cap_s); rw [hpn, ← hne], rfl, rfl, trivial⟩ | exact next (i + 1, p_s, cap_s, g_s, b_s) (by simp only; omega) ⟨hm, by simp only [hpn]; exact ha_s, by simp only; omega, by simp only [hpn]; exact hin⟩ ⟨rfl, by show some (Value.slice p_s (Pl.pr i).length cap_s) = some (.slice p_s (Pl.pr (i + 1)).length cap_s); rw [hpn], rfl, rfl, trivial⟩
      ·
        have hpn : Pl.pr (i + 1) = Pl.pr i := by simp only [Pl.pr]; rw [hc3]; rfl
        refine HW_skip rfl ?_
        refine gn_bl ?_
        refine gn_sq ?_
        refine HW_text (.pure 0 (.pure 1 (.pure 2 .done))) (by kernel_rfl) ?_
        refine rw_p rfl rfl (y_move rfl) ?_
        refine rw_p rfl rfl (y_add rfl rfl (u_add (a := i + 2) (b := 1) (by omega))) ?_
        refine rw_p rfl rfl (y_assign rfl) ?_
        refine rw_done ?_
        first | exact next (i + 1, p_s, cap_s, g_s, b_s) (by simp only; omega) ⟨(hm.pick [0] rfl), by simp only [hpn]; rw [← hne]; exact ha_s, by simp only; omega, by simp only [hpn]; rw [List.length_append]; exact hin2⟩ ⟨rfl, by show some (Value.slice p_s ((Pl.pr i).length + 1) cap_s) = some (.slice p_s (Pl.pr (i + 1)).length cap_s); rw [hpn, ← hne], rfl, rfl, trivial⟩ | exact next (i + 1, p_s, cap_s, g_s, b_s) (by simp only; omega) ⟨hm, by simp only [hpn]; exact ha_s, by simp only; omega, by simp only [hpn]; exact hin⟩ ⟨rfl, by show some (Value.slice p_s (Pl.pr i).length cap_s) = some (.slice p_s (Pl.pr (i + 1)).length cap_s); rw [hpn], rfl, rfl, trivial⟩
  ·
    obtain ⟨i, p_s, cap_s, g_s, b_s⟩ := x
    simp only at hm ha_s hk hin hc0 ⊢
    simp only [decide_eq_false_iff_not] at hc0
    have hpn := Pl.pr_take hn hk (by omega : (Pl.pr i).length = n)
    have hpl : (Pl.prs.take n).length = n := by rw [List.length_take, Pl.prs_len]; omega
    rw [hpn, hpl] at ha_s
    rw [hpn, hpl]
    refine HW_exit rfl ?_
    refine gx_sq (gx_lp ?_)
    refine gx_here ?_
    refine gn_sq ?_
    refine HW_seq rfl ?_
    refine HW_text (.pure 0 (.pure 1 .done)) (by kernel_rfl) ?_
    refine rw_p rfl rfl (y_move rfl) ?_
    refine rw_p rfl rfl (y_assign rfl) ?_
    refine rw_done ?_
    refine gn_sq ?_
    refine HW_ret rfl ?_
    refine toR (fin hret rfl (.tmp rfl .nil) .one ?_)
    exact ⟨p_s, cap_s, g_s, b_s, rfl, ha_s, (hm.pick [0] rfl)⟩

set_option maxHeartbeats 800000 in
theorem r2_consts (n : Nat) (cubes : Bool) (w0 : World) (hn : n ≤ 64) (hg : ∀ p ∈ Pl.prs.take n, Pl.rootGood p cubes = true) (h0 : ∀ p ∈ Pl.prs.take n, Pl.rootOk p cubes (bif cubes then 34359738368 else 68719476736) = false) : C Try.prog 33 [.int .i64 (n : Int), .bool cubes] w0 fun v w' => ∃ p c g b, v = .slice p n c ∧ Acc 48 1 p n c (((Pl.prs.take n).map (Pl.rootW · cubes)).flatMap encW) g b ∧ Mem w0 w' No [(g, b)] := by
  have hpl : (Pl.prs.take n).length = n := by rw [List.length_take, Pl.prs_len]; omega
  have hpb : ∀ p ∈ Pl.prs.take n, p < 4294967296 := fun p hp => (show ∀ p ∈ Pl.prs, p < 4294967296 by decide) p (List.mem_of_mem_take hp)
  refine C_of Try.func33 rfl rfl rfl fun κ hret hnorm => ?_
  have hm := Mem.start w0
  refine HW_seq rfl ?_
  refine HW_text (.pure 0 .done) (by kernel_rfl) ?_
  refine rw_p rfl rfl (y_assign rfl) ?_
  refine rw_done ?_
  refine gn_sq ?_
  refine HW_seq rfl ?_
  refine HW_text (.pure 0 .done) (by kernel_rfl) ?_
  refine rw_p rfl rfl (y_assign rfl) ?_
  replace hm := hm.gapIn
  have ha_s := Acc.nil 48 1 none 0
  refine rw_done ?_
  refine gn_sq ?_
  refine HW_seq rfl ?_
  refine HW_text (.pure 0 (.act 1 (.pure 2 .done))) (by kernel_rfl) ?_
  refine rw_p rfl rfl (y_move rfl) ?_
  refine a_call rfl rfl rfl go37 (r2_primes n _ hn) fun v w hR => ?_
  obtain ⟨p_q, cap_q, g_q, b_q, rfl, ha_q, hmc⟩ := hR
  refine ⟨trivial, ?_⟩
  replace hm := hm.callN hmc
  refine rw_p rfl rfl (y_assign rfl) ?_
  refine rw_done ?_
  refine gn_sq ?_
  refine HW_seq rfl ?_
  refine HW_seq rfl ?_
  refine HW_text (.pure 0 .done) (by kernel_rfl) ?_
  refine rw_p rfl rfl (y_assign rfl) ?_
  refine rw_done ?_
  refine gn_sq ?_
  refine HW_block rfl ?_
  refine HW_loopK (ι := Nat × Option Addr × Nat × Nat × Blk) rfl (ks := [1, 4, 6]) (.cons rfl (.cons rfl (.cons rfl .nil))) (fun x => [(7, .int .i64 x.1), (5, .slice x.2.1 x.1 x.2.2.1)]) (fun x w => Mem w0 w No [(x.2.2.2.1, x.2.2.2.2), (g_q, b_q)] ∧ Acc 48 1 x.2.1 x.1 x.2.2.1 (((((Pl.prs.take x.1).map (Pl.rootW · cubes))).flatMap encW)) x.2.2.2.1 x.2.2.2.2 ∧ x.1 ≤ n) (fun x => n - x.1) (0, none, 0, 0, .gap) (⟨(hm.pick [1, 0] rfl), ha_s, Nat.zero_le _⟩) ⟨rfl, rfl, trivial⟩ (fun x w hM => ?_)
  obtain ⟨hm, ha_s, hk⟩ := hM
  refine HW_seq rfl ?_
  refine HW_seq rfl ?_
  refine HW_text (.pure 0 (.pure 1 (.pure 2 (.pure 3 .done)))) (by kernel_rfl) ?_
  refine rw_p rfl rfl (y_move rfl) ?_
  refine rw_p rfl rfl (y_move rfl) ?_
  refine rw_p rfl rfl (y_len rfl rfl sl65) ?_
  refine rw_p rfl rfl (y_lt rfl rfl) ?_
  refine rw_done ?_
  refine gn_sq ?_
  refine HW_cond rfl rfl (fun hc0 => ?_) (fun hc0 => ?_)
  ·
    obtain ⟨i, p_s, cap_s, g_s, b_s⟩ := x
    simp only at hm ha_s hk hc0 ⊢
    simp only [decide_eq_true_eq] at hc0
    obtain ⟨q, hi⟩ : ∃ y_, (Pl.prs.take n)[i]? = some y_ := ⟨_, List.getElem?_eq_getElem (by omega)⟩
    have hqm := List.mem_of_getElem? hi
    have hi2 : Pl.prs[i]? = some q := by rw [List.getElem?_take, if_pos (by omega)] at hi; exact hi
    refine HW_skip rfl ?_
    refine gn_sq ?_
    refine HW_seq rfl ?_
    refine HW_block rfl ?_
    refine HW_text (.pure 0 (.pure 1 (.pure 2 (.pure 3 (.pure 4 (.pure 5 (.act 6 (.act 7 (.act 8 (.pure 9 .done)))))))))) (by kernel_rfl) ?_
    refine rw_p rfl rfl (y_move rfl) ?_
    refine rw_p rfl rfl (y_move rfl) ?_
    refine rw_p rfl rfl (y_move rfl) ?_
    refine rw_p rfl rfl (y_index rfl rfl sl65 (ha_q.ptr (by omega)) (by omega) (by omega)) ?_
    refine rw_p rfl rfl (y_el1 rfl sc63 ((ha_q.ptr (by omega)) ▸ ha_q.rd hm 1 rfl).nt encU_len hi rfl) ?_
    refine rw_p rfl rfl (y_move rfl) ?_
    refine a_call rfl rfl rfl go38 (r2_root q cubes _ (hpb q hqm) (hg q hqm) (h0 q hqm)) fun v w hR => ?_
    obtain ⟨rfl, hE⟩ := hR
    refine ⟨trivial, ?_⟩
    replace hm := hm.ext hE
    refine a_buildSlice (l := [_]) rfl rfl sl44 z48 rfl rfl rfl rfl rfl rfl rfl hm trivial fun m1 w hg_m1 hm hh => ?_
    refine a_append rfl rfl rfl rfl rfl rfl sl44 sl44 z48 rfl rfl (Rd.row0 (hm.get (k := 0) rfl)) rfl ha_s hm 1 rfl (by omega) (by omega) fun p_s cap_s g_s b_s w ha_s hm => ?_
    replace ha_s := ha_s.to (show _ = (((Pl.prs.take (i + 1)).map (Pl.rootW · cubes))).flatMap encW by rw [Pl.take_snoc hi2, List.map_append, List.flatMap_append]; rfl)
    refine rw_p rfl rfl (y_assign rfl) ?_
    refine rw_done ?_
    refine gn_bl ?_
    refine gn_sq ?_
    refine HW_text (.pure 0 (.pure 1 (.pure 2 .done))) (by kernel_rfl) ?_
    refine rw_p rfl rfl (y_move rfl) ?_
    refine rw_p rfl rfl (y_add rfl rfl (i64w (by omega) (by omega))) ?_
    refine rw_p rfl rfl (y_assign rfl) ?_
    refine rw_done ?_
    exact next (i + 1, p_s, cap_s, g_s, b_s) (by simp only; omega) ⟨(hm.pick [1, 2] rfl), ha_s, by simp only; omega⟩ ⟨nx i, rfl, rfl, rfl, rfl, trivial⟩
  ·
    obtain ⟨i, p_s, cap_s, g_s, b_s⟩ := x
    simp only at hm ha_s hk hc0 ⊢
    simp only [decide_eq_false_iff_not] at hc0
    obtain rfl : i = n := by omega
    refine HW_exit rfl ?_
    refine gx_sq (gx_lp ?_)
    refine gx_here ?_
    refine gn_sq ?_
    refine HW_seq rfl ?_
    refine HW_text (.pure 0 (.pure 1 .done)) (by kernel_rfl) ?_
    refine rw_p rfl rfl (y_move rfl) ?_
    refine rw_p rfl rfl (y_assign rfl) ?_
    refine rw_done ?_
    refine gn_sq ?_
    refine HW_ret rfl ?_
    refine toR (fin hret rfl (.tmp rfl .nil) .one ?_)
    exact ⟨p_s, cap_s, g_s, b_s, rfl, ha_s, (hm.pick [0] rfl)⟩

theorem r2_table (w0 : World) : C Try.prog 23 [] w0 fun v w' => ∃ p c g b q d h e, v = .agg ⟨[.slice p 8 c, .slice q 64 d]⟩ ∧ Acc 48 1 p 8 c (Pl.shI.l.flatMap encW) g b ∧ Acc 48 1 q 64 d (Pl.shK.flatMap encW) h e ∧ Mem w0 w' No [(g, b), (h, e)] := by
  refine C_of Try.func23 rfl rfl rfl fun κ hret hnorm => ?_
  have hm := Mem.start w0
  refine HW_seq rfl ?_
  refine HW_text (.act 0 .done) (by kernel_rfl) ?_
  refine a_alloc rfl rfl z46 hm trivial fun m1 w hg_m1 hm hh => ?_
  refine rw_done ?_
  refine gn_sq ?_
  refine HW_seq rfl ?_
  refine HW_text (.act 0 (.act 1 (.pure 2 (.act 3 .done)))) (by kernel_rfl) ?_
  refine a_call rfl rfl rfl go33 (r2_consts 8 false _ (by decide) (by have := Pl.good_s; rw [List.all_eq_true] at this; exact this) (by decide)) fun v w hR => ?_
  obtain ⟨p_s, cap_s, g_s, b_s, rfl, ha_s, hmc⟩ := hR
  refine ⟨trivial, ?_⟩
  replace hm := hm.callN hmc
  refine a_call rfl rfl rfl go33 (r2_consts 64 true _ (by decide) (by have := Pl.good_c; rw [List.all_eq_true] at this; exact this) (by decide)) fun v w hR => ?_
  obtain ⟨p_q, cap_q, g_q, b_q, rfl, ha_q, hmc⟩ := hR
  refine ⟨trivial, ?_⟩
  replace hm := hm.callN hmc
  refine rw_p rfl rfl (y_build (cs := [_, _]) z46 ft46 rfl rfl rfl rfl rfl) ?_
  refine a_store rfl rfl rfl rfl sz46 rfl hm 2 rfl rfl fun w hm => ?_
  refine rw_done ?_
  refine gn_sq ?_
  refine HW_ret rfl ?_
  refine toR (fin hret rfl (.cell rfl (run_loadVar_a (vs := [_, _]) ag46 (hm.get (k := 2) rfl) rfl) .nil) .one ?_)
  exact ⟨p_s, cap_s, g_s, b_s, p_q, cap_q, g_q, b_q, rfl, by rw [← Pl.roots_s]; exact ha_s, by rw [← Pl.roots_c]; exact ha_q, (hm.pick [1, 0] rfl)⟩

theorem r2_rot (x : UInt32) (j : Nat) (w0 : World) (h1 : 1 ≤ j) (h2 : j < 32) : C Try.prog 36 [.int .u32 ((x).toNat : Int), .int .i64 (j : Int)] w0 fun v w' => v = .int .u32 ((Pl.rotr x (UInt32.ofNat j)).toNat : Int) ∧ Ext No w0 w' := by
  refine C_of Try.func36 rfl rfl rfl fun κ hret hnorm => ?_
  have hm := Mem.start w0
  refine HW_seq rfl ?_
  refine HW_text (.pure 0 .done) (by kernel_rfl) ?_
  refine rw_p rfl rfl (y_assign (cW 0 rfl)) ?_
  refine rw_done ?_
  refine gn_sq ?_
  refine HW_seq rfl ?_
  refine HW_draw (.pure 0 (.pure 1 (.pure 2 (.pure 3 (.pure 4 (.pure 5 (.pure 6 (.pure 7 (.pure 8 .done))))))))) No mix (by kernel_rfl) hm fun w hw hm0 hh => ?_
  have hm := hm0
  refine rw_p rfl rfl (y_move rfl) ?_
  refine rw_p rfl rfl (y_move rfl) ?_
  refine rw_p rfl rfl (y_shr rfl rfl (by omega) (w_shr (UInt32.ofNat j) (by rw [oN h2]) (by rw [oN h2]; omega))) ?_
  refine rw_p rfl rfl (y_move rfl) ?_
  refine rw_p rfl rfl (y_move rfl) ?_
  refine rw_p rfl rfl (y_sub rfl rfl (subK (a := 32) _ (by omega) (by decide))) ?_
  refine rw_p rfl rfl (y_shl rfl rfl (by omega) (w_shl (UInt32.ofNat (32 - j)) (by rw [oN (by omega)]) (by rw [oN (by omega)]; omega))) ?_
  refine rw_p rfl rfl (y_or_ rfl rfl w_or) ?_
  refine rw_p rfl rfl (y_assign rfl) ?_
  refine rw_done ?_
  refine gn_sq ?_
  refine HW_ret rfl ?_
  refine toR (fin hret rfl (.tmp rfl .nil) .one ?_)
  exact ⟨by rw [← rot_eq x h1 h2, UInt32.or_comm], hm.to⟩

end Go.Proofs.Ytdiklnekplhhgaa
