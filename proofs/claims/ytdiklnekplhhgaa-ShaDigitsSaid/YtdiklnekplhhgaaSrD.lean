/- Contracts of functions of the program: what each returns. Conditions: the hypotheses of each theorem. -/
import Derived.Test.YtdiklnekplhhgaaSrC
set_option linter.unusedVariables false
set_option linter.unusedSimpArgs false
namespace Go.Proofs.Ytdiklnekplhhgaa
open Go Go.Cx

theorem go36 : isGo Try.prog 36 = true := by kernel_rfl

set_option maxHeartbeats 800000 in
theorem r2_pad (p : Option Addr) (cap : Nat) (b : List UInt8) (w0 : World) (hx : Rd w0 p (b.flatMap encB)) (hl : b.length ≤ 1000000000000) : C Try.prog 30 [.slice p b.length cap] w0 fun v w' => ∃ q c g d, v = .slice q (b ++ Pl.shPad b.length).length c ∧ Acc 5 1 q (b ++ Pl.shPad b.length).length c ((b ++ Pl.shPad b.length).flatMap encB) g d ∧ Mem w0 w' No [(g, d)] := by
  refine C_of Try.func30 rfl rfl rfl fun κ hret hnorm => ?_
  have hm := Mem.start w0
  refine HW_seq rfl ?_
  refine HW_text (.pure 0 .done) (by kernel_rfl) ?_
  refine rw_p rfl rfl (y_assign rfl) ?_
  refine rw_done ?_
  refine gn_sq ?_
  refine HW_seq rfl ?_
  refine HW_text (.act 0 (.pure 1 (.act 2 (.pure 3 .done)))) (by kernel_rfl) ?_
  refine a_buildSlice (l := []) rfl rfl sl22 z5 rfl rfl rfl rfl rfl rfl rfl hm trivial fun m1 w hg_m1 hm hh => ?_
  refine rw_p rfl rfl (y_move rfl) ?_
  refine a_append rfl rfl rfl rfl rfl rfl sl22 sl22 z5 rfl (oneB b) (hx.ext0 hm.to) (lenB b) (Acc.row rfl) hm 0 rfl (by omega) (by omega) fun p_s cap_s g_s b_s w ha_s hm => ?_
  replace ha_s := ha_s.to (show _ = b.flatMap encB from List.nil_append _)
  refine rw_p rfl rfl (y_assign rfl) ?_
  refine rw_done ?_
  refine gn_sq ?_
  refine HW_seq rfl ?_
  refine HW_text (.pure 0 (.act 1 (.act 2 (.pure 3 .done)))) (by kernel_rfl) ?_
  refine rw_p rfl rfl (y_move rfl) ?_
  refine a_buildSlice (l := [_]) rfl rfl sl22 z5 rfl rfl rfl rfl rfl rfl rfl hm trivial fun m2 w hg_m2 hm hh => ?_
  refine a_append rfl rfl rfl rfl rfl rfl sl22 sl22 z5 rfl rfl (Rd.row0 (hm.get (k := 0) rfl)) rfl ha_s hm 1 rfl (by omega) (by omega) fun p_s cap_s g_s b_s w ha_s hm => ?_
  have hne : 0 + b.length + 1 = (b ++ [128] ++ List.replicate 0 0).length := by simp only [List.length_append, List.length_replicate, List.length_cons, List.length_nil]; omega
  replace ha_s := ha_s.to (show _ = (b ++ [128] ++ List.replicate 0 0).flatMap encB by rw [List.replicate_zero, List.append_nil, List.flatMap_append]; rfl)
  refine rw_p rfl rfl (y_assign rfl) ?_
  refine rw_done ?_
  refine gn_sq ?_
  refine HW_seq rfl ?_
  refine HW_block rfl ?_
  refine HW_loopK (ι := Nat × Option Addr × Nat × Nat × Blk) rfl (ks := [0, 2]) (.cons rfl (.cons rfl .nil)) (fun x => [(3, .slice x.2.1 (b ++ [128] ++ List.replicate x.1 0).length x.2.2.1)]) (fun x w => Mem w0 w No [(x.2.2.2.1, x.2.2.2.2)] ∧ Acc 5 1 x.2.1 (b ++ [128] ++ List.replicate x.1 0).length x.2.2.1 ((b ++ [128] ++ List.replicate x.1 0).flatMap encB) x.2.2.2.1 x.2.2.2.2 ∧ x.1 ≤ Pl.padZ b.length) (fun x => Pl.padZ b.length - x.1) (0, p_s, cap_s, g_s, b_s) (⟨(hm.pick [1] rfl), by simp only; rw [← hne]; exact ha_s, Nat.zero_le _⟩) ⟨congrArg (fun z => some (Value.slice p_s z cap_s)) hne, trivial⟩ (fun x w hM => ?_)
  obtain ⟨hm, ha_s, hk⟩ := hM
  refine HW_seq rfl ?_
  refine HW_seq rfl ?_
  refine HW_text (.pure 0 (.pure 1 (.pure 2 (.pure 3 .done)))) (by kernel_rfl) ?_
  refine rw_p rfl rfl (y_move rfl) ?_
  refine rw_p rfl rfl (y_len rfl rfl sl22) ?_
  refine rw_p rfl rfl (y_rem rfl rfl (by decide) (remK _ 64)) ?_
  refine rw_p rfl rfl (y_ne rfl rfl) ?_
  refine rw_done ?_
  refine gn_sq ?_
  refine HW_cond rfl rfl (fun hc0 => ?_) (fun hc0 => ?_)
  ·
    obtain ⟨j, p_s, cap_s, g_s, b_s⟩ := x
    simp only at hm ha_s hk hc0 ⊢
    simp only [decide_eq_true_eq] at hc0
    have hlj : (b ++ [128] ++ List.replicate j 0).length = b.length + 1 + j := by simp only [List.length_append, List.length_replicate, List.length_cons, List.length_nil]
    rw [hlj] at hc0
    have hjp : j < Pl.padZ b.length := by unfold Pl.padZ at hk ⊢; omega
    have hpz : Pl.padZ b.length ≤ 64 := by unfold Pl.padZ; omega
    refine HW_skip rfl ?_
    refine gn_sq ?_
    refine HW_block rfl ?_
    refine HW_text (.pure 0 (.act 1 (.act 2 (.pure 3 .done)))) (by kernel_rfl) ?_
    refine rw_p rfl rfl (y_move rfl) ?_
    refine a_buildSlice (l := [_]) rfl rfl sl22 z5 rfl rfl rfl rfl rfl rfl rfl hm trivial fun m3 w hg_m3 hm hh => ?_
    refine a_append rfl rfl rfl rfl rfl rfl sl22 sl22 z5 rfl rfl (Rd.row0 (hm.get (k := 0) rfl)) rfl ha_s hm 1 rfl (by omega) (by omega) fun p_s cap_s g_s b_s w ha_s hm => ?_
    have hne : (b ++ [128] ++ List.replicate j 0).length + 1 = (b ++ [128] ++ List.replicate (j + 1) 0).length := by simp only [List.length_append, List.length_replicate, List.length_cons, List.length_nil]; omega
    replace ha_s := ha_s.to (show _ = (b ++ [128] ++ List.replicate (j + 1) 0).flatMap encB by rw [List.replicate_succ', ← List.append_assoc, List.flatMap_append (xs := (b ++ [128] ++ List.replicate j 0))]; rfl)
    refine rw_p rfl rfl (y_assign rfl) ?_
    refine rw_done ?_
    refine gn_bl ?_
    exact next (j + 1, p_s, cap_s, g_s, b_s) (by simp only; omega) ⟨(hm.pick [1] rfl), by simp only; rw [← hne]; exact ha_s, by simp only; omega⟩ ⟨congrArg (fun z => some (Value.slice p_s z cap_s)) hne, rfl, rfl, trivial⟩
  ·
    obtain ⟨j, p_s, cap_s, g_s, b_s⟩ := x
    simp only at hm ha_s hk hc0 ⊢
    simp only [decide_eq_false_iff_not, Decidable.not_not] at hc0
    have hlj : (b ++ [128] ++ List.replicate j 0).length = b.length + 1 + j := by simp only [List.length_append, List.length_replicate, List.length_cons, List.length_nil]
    rw [hlj] at hc0
    obtain rfl : j = Pl.padZ b.length := by unfold Pl.padZ at hk ⊢; omega
    have hpz : Pl.padZ b.length ≤ 64 := by unfold Pl.padZ; omega
    have hne2 : (b ++ [128] ++ List.replicate (Pl.padZ b.length) 0 ++ (Pl.beN (b.length * 8) 8).take 0) = (b ++ [128] ++ List.replicate (Pl.padZ b.length) 0) := by rw [List.take_zero, List.append_nil]
    refine HW_exit rfl ?_
    refine gx_sq (gx_lp ?_)
    refine gx_here ?_
    refine gn_sq ?_
    refine HW_seq rfl ?_
    refine HW_text (.pure 0 (.pure 1 (.pure 2 (.pure 3 (.pure 4 .done))))) (by kernel_rfl) ?_
    refine rw_p rfl rfl (y_move rfl) ?_
    refine rw_p rfl rfl (y_len rfl rfl sl22) ?_
    refine rw_p rfl rfl (y_conv rfl is3 it63 (u64N.trans (by rw [Nat.mod_eq_of_lt (by omega)]))) ?_
    refine rw_p rfl rfl (y_mul rfl rfl (u_mul (b := 8) (by omega))) ?_
    refine rw_p rfl rfl (y_assign rfl) ?_
    refine rw_done ?_
    refine gn_sq ?_
    refine HW_seq rfl ?_
    refine HW_seq rfl ?_
    refine HW_text (.pure 0 .done) (by kernel_rfl) ?_
    refine rw_p rfl rfl (y_assign rfl) ?_
    refine rw_done ?_
    refine gn_sq ?_
    refine HW_block rfl ?_
    refine HW_loopK (ι := Nat × Option Addr × Nat × Nat × Blk) rfl (ks := [2, 4]) (.cons rfl (.cons rfl .nil)) (fun x => [(5, .int .i64 (7 - (x.1 : Int))), (3, .slice x.2.1 (b ++ [128] ++ List.replicate (Pl.padZ b.length) 0 ++ (Pl.beN (b.length * 8) 8).take x.1).length x.2.2.1)]) (fun x w => Mem w0 w No [(x.2.2.2.1, x.2.2.2.2)] ∧ Acc 5 1 x.2.1 (b ++ [128] ++ List.replicate (Pl.padZ b.length) 0 ++ (Pl.beN (b.length * 8) 8).take x.1).length x.2.2.1 ((b ++ [128] ++ List.replicate (Pl.padZ b.length) 0 ++ (Pl.beN (b.length * 8) 8).take x.1).flatMap encB) x.2.2.2.1 x.2.2.2.2 ∧ x.1 ≤ 8) (fun x => 8 - x.1) (0, p_s, cap_s, g_s, b_s) (⟨(hm.pick [0] rfl), by simp only; rw [hne2]; exact ha_s, Nat.zero_le _⟩) ⟨rfl, congrArg (fun z => some (Value.slice p_s z cap_s)) (congrArg List.length hne2.symm), trivial⟩ (fun x w hM => ?_)
    obtain ⟨hm, ha_s, hk⟩ := hM
    refine HW_seq rfl ?_
    refine HW_seq rfl ?_
    refine HW_text (.pure 0 (.pure 1 .done)) (by kernel_rfl) ?_
    refine rw_p rfl rfl (y_move rfl) ?_
    refine rw_p rfl rfl (y_ge rfl rfl) ?_
    refine rw_done ?_
    refine gn_sq ?_
    refine HW_cond rfl rfl (fun hc1 => ?_) (fun hc1 => ?_)
    ·
      obtain ⟨y, p_s, cap_s, g_s, b_s⟩ := x
      simp only at hm ha_s hk hc1 ⊢
      simp only [decide_eq_true_eq] at hc1
      have hel : (b ++ [128] ++ List.replicate (Pl.padZ b.length) 0 ++ (Pl.beN (b.length * 8) 8).take y).length ≤ 1000000000100 := by simp only [List.length_append, List.length_replicate, List.length_take, Pl.beN_len, List.length_cons, List.length_nil]; omega
      have hbn := Pl.beN_get (b.length * 8) 8 y (by omega)
      refine HW_skip rfl ?_
      refine gn_sq ?_
      refine HW_seq rfl ?_
      refine HW_block rfl ?_
      refine HW_text (.pure 0 (.pure 1 (.pure 2 (.pure 3 (.pure 4 (.pure 5 (.act 6 (.act 7 (.pure 8 .done))))))))) (by kernel_rfl) ?_
      refine rw_p rfl rfl (y_move rfl) ?_
      refine rw_p rfl rfl (y_move rfl) ?_
      refine rw_p rfl rfl (y_move rfl) ?_
      refine rw_p rfl rfl (y_mul rfl rfl (i64w (by omega) (by omega))) ?_
      refine rw_p rfl rfl (y_shr rfl rfl (by omega) rfl) ?_
      refine rw_p rfl rfl (y_conv rfl is63 it5 (be_shift (y := y) (by omega) rfl)) ?_
      refine a_buildSlice (l := [_]) rfl rfl sl22 z5 rfl rfl rfl rfl rfl rfl rfl hm trivial fun m3 w hg_m3 hm hh => ?_
      refine a_append rfl rfl rfl rfl rfl rfl sl22 sl22 z5 rfl rfl (Rd.row0 (hm.get (k := 0) rfl)) rfl ha_s hm 1 rfl (by omega) (by omega) fun p_s cap_s g_s b_s w ha_s hm => ?_
      replace ha_s := ha_s.to (show _ = (b ++ [128] ++ List.replicate (Pl.padZ b.length) 0 ++ (Pl.beN (b.length * 8) 8).take (y + 1)).flatMap encB by rw [Pl.take_snoc hbn, ← List.append_assoc, List.flatMap_append (xs := (b ++ [128] ++ List.replicate (Pl.padZ b.length) 0 ++ (Pl.beN (b.length * 8) 8).take y))]; rfl)
      have hne : (b ++ [128] ++ List.replicate (Pl.padZ b.length) 0 ++ (Pl.beN (b.length * 8) 8).take y).length + 1 = (b ++ [128] ++ List.replicate (Pl.padZ b.length) 0 ++ (Pl.beN (b.length * 8) 8).take (y + 1)).length := by rw [Pl.take_snoc hbn]; simp only [List.length_append, List.length_cons, List.length_nil]; omega
      refine rw_p rfl rfl (y_assign rfl) ?_
      refine rw_done ?_
      refine gn_bl ?_
      refine gn_sq ?_
      refine HW_text (.pure 0 (.pure 1 (.pure 2 .done))) (by kernel_rfl) ?_
      refine rw_p rfl rfl (y_move rfl) ?_
      refine rw_p rfl rfl (y_sub rfl rfl (i64w (by omega) (by omega))) ?_
      refine rw_p rfl rfl (y_assign rfl) ?_
      refine rw_done ?_
      exact next (y + 1, p_s, cap_s, g_s, b_s) (by simp only; omega) ⟨(hm.pick [1] rfl), by simp only; rw [← hne]; exact ha_s, by simp only; omega⟩ ⟨congrArg (fun z => some (Value.int .i64 z)) (show (7 : Int) - (y : Int) - 1 = 7 - ((y + 1 : Nat) : Int) by omega), congrArg (fun z => some (Value.slice p_s z cap_s)) hne, rfl, rfl, trivial⟩
    ·
      obtain ⟨y, p_s, cap_s, g_s, b_s⟩ := x
      simp only at hm ha_s hk hc1 ⊢
      simp only [decide_eq_false_iff_not] at hc1
      obtain rfl : y = 8 := by omega
      have hee : (b ++ [128] ++ List.replicate (Pl.padZ b.length) 0 ++ (Pl.beN (b.length * 8) 8).take 8) = b ++ Pl.shPad b.length := by unfold Pl.shPad; rw [List.take_of_length_le (by rw [Pl.beN_len]; exact Nat.le_refl _)]; simp only [List.append_assoc]
      rw [hee] at ha_s ⊢
      refine HW_exit rfl ?_
      refine gx_sq (gx_lp ?_)
      refine gx_here ?_
      refine gn_sq ?_
      refine HW_seq rfl ?_
      refine HW_text (.pure 0 (.pure 1 .done)) (by kernel_rfl) ?_
      refine rw_p rfl rfl (y_move rfl) ?_
      refine rw_p rfl rfl (y_assign rfl) ?_
      refine rw_done ?_
      refine gn_sq ?_
      refine HW_ret rfl ?_
      refine toR (fin hret rfl (.tmp rfl .nil) .one ?_)
      exact ⟨p_s, cap_s, g_s, b_s, rfl, ha_s, (hm.pick [0] rfl)⟩

set_option maxHeartbeats 1600000 in
theorem r2_sched (p : Option Addr) (cap : Nat) (bs : List UInt8) (w0 : World) (hx : Rd w0 p (bs.flatMap encB)) (hl : bs.length = 64) : C Try.prog 32 [.slice p 64 cap] w0 fun v w' => ∃ q c g d, v = .slice q 64 c ∧ Acc 48 1 q 64 c ((Pl.schB bs).flatMap encW) g d ∧ Mem w0 w' No [(g, d)] := by
  obtain ⟨x0_, hx0_⟩ : ∃ y_, bs[0]? = some y_ := ⟨_, List.getElem?_eq_getElem (by omega)⟩
  obtain ⟨b2, o2, hp4⟩ := hx.atI encB_len (by decide) hx0_
  refine C_of Try.func32 rfl rfl rfl fun κ hret hnorm => ?_
  have hm := Mem.start w0
  refine HW_seq rfl ?_
  refine HW_text (.pure 0 .done) (by kernel_rfl) ?_
  refine rw_p rfl rfl (y_assign rfl) ?_
  refine rw_done ?_
  refine gn_sq ?_
  refine HW_seq rfl ?_
  refine HW_text (.pure 0 .done) (by kernel_rfl) ?_
  refine rw_p rfl rfl (y_assign rfl) ?_
  replace hm := hm.gapIn
  have ha_s := Acc.nil 48 1 none 0
  refine rw_done ?_
  refine gn_sq ?_
  refine HW_seq rfl ?_
  refine HW_seq rfl ?_
  refine HW_text (.pure 0 .done) (by kernel_rfl) ?_
  refine rw_p rfl rfl (y_assign rfl) ?_
  refine rw_done ?_
  refine gn_sq ?_
  refine HW_block rfl ?_
  refine HW_loopK (ι := Nat × Option Addr × Nat × Nat × Blk) rfl (ks := [0, 2]) (.cons rfl (.cons rfl .nil)) (fun x => [(4, .int .i64 x.1), (3, .slice x.2.1 x.1 x.2.2.1)]) (fun x w => Mem w0 w No [(x.2.2.2.1, x.2.2.2.2)] ∧ Acc 48 1 x.2.1 x.1 x.2.2.1 ((Pl.wordsB bs x.1).flatMap encW) x.2.2.2.1 x.2.2.2.2 ∧ x.1 ≤ 16) (fun x => 16 - x.1) (0, none, 0, 0, .gap) (⟨hm, ha_s, Nat.zero_le _⟩) ⟨rfl, rfl, trivial⟩ (fun x w hM => ?_)
  obtain ⟨hm, ha_s, hk⟩ := hM
  refine HW_seq rfl ?_
  refine HW_seq rfl ?_
  refine HW_text (.pure 0 (.pure 1 .done)) (by kernel_rfl) ?_
  refine rw_p rfl rfl (y_move rfl) ?_
  refine rw_p rfl rfl (y_lt rfl rfl) ?_
  refine rw_done ?_
  refine gn_sq ?_
  refine HW_cond rfl rfl (fun hc0 => ?_) (fun hc0 => ?_)
  ·
    obtain ⟨x, p_s, cap_s, g_s, b_s⟩ := x
    simp only at hm ha_s hk hc0 ⊢
    simp only [decide_eq_true_eq] at hc0
    obtain ⟨c0, hi0⟩ : ∃ y_, bs[4 * x + 0]? = some y_ := ⟨_, List.getElem?_eq_getElem (by omega)⟩
    obtain ⟨c1, hi1⟩ : ∃ y_, bs[4 * x + 1]? = some y_ := ⟨_, List.getElem?_eq_getElem (by omega)⟩
    obtain ⟨c2, hi2⟩ : ∃ y_, bs[4 * x + 2]? = some y_ := ⟨_, List.getElem?_eq_getElem (by omega)⟩
    obtain ⟨c3, hi3⟩ : ∃ y_, bs[4 * x + 3]? = some y_ := ⟨_, List.getElem?_eq_getElem (by omega)⟩
    have hwb : Pl.wordB bs x = Pl.be4 c0 c1 c2 c3 := by unfold Pl.wordB; simp only [List.getD_eq_getElem?_getD, hi1, hi2, hi3, show bs[4 * x]? = some c0 from hi0, Option.getD_some]
    refine HW_skip rfl ?_
    refine gn_sq ?_
    refine HW_seq rfl ?_
    refine HW_block rfl ?_
    refine HW_draw (.pure 0 (.pure 1 (.pure 2 (.pure 3 (.pure 4 (.pure 5 (.pure 6 (.pure 7 (.pure 8 (.pure 9 (.pure 10 (.pure 11 (.pure 12 (.pure 13 (.pure 14 (.pure 15 (.pure 16 (.pure 17 (.pure 18 (.pure 19 (.pure 20 (.pure 21 (.pure 22 (.pure 23 (.pure 24 (.pure 25 (.pure 26 (.pure 27 (.pure 28 (.pure 29 (.pure 30 (.pure 31 (.pure 32 (.cut (.pure 33 (.act 34 (.act 35 (.pure 36 .done)))))))))))))))))))))))))))))))))))))) No mix (by kernel_rfl) hm fun w hw hm0 hh => ?_
    have hm := hm0
    refine rw_p rfl rfl (y_move rfl) ?_
    refine rw_p rfl rfl (y_move rfl) ?_
    refine rw_p rfl rfl (y_move rfl) ?_
    refine rw_p rfl rfl (y_mul rfl rfl (mulK 4 (by omega))) ?_
    refine rw_p rfl rfl (y_index rfl rfl sl22 hp4 (by omega) (by omega)) ?_
    refine rw_p rfl rfl (y_el1 rfl sc5 (hp4 ▸ hx.ext0 hm0.to).nd encB_len hi0 rfl) ?_
    refine rw_p rfl rfl (y_conv rfl is5 it48 w_of8) ?_
    refine rw_p rfl rfl (y_shl rfl rfl (by decide) (w_shl 24 rfl (by decide))) ?_
    refine rw_p rfl rfl (y_move rfl) ?_
    refine rw_p rfl rfl (y_move rfl) ?_
    refine rw_p rfl rfl (y_mul rfl rfl (mulK 4 (by omega))) ?_
    refine rw_p rfl rfl (y_add rfl rfl (addK 1 (by omega))) ?_
    refine rw_p rfl rfl (y_index rfl rfl sl22 hp4 (by omega) (by omega)) ?_
    refine rw_p rfl rfl (y_el1 rfl sc5 (hp4 ▸ hx.ext0 hm0.to).nd encB_len hi1 rfl) ?_
    refine rw_p rfl rfl (y_conv rfl is5 it48 w_of8) ?_
    refine rw_p rfl rfl (y_shl rfl rfl (by decide) (w_shl 16 rfl (by decide))) ?_
    refine rw_p rfl rfl (y_or_ rfl rfl w_or) ?_
    refine rw_p rfl rfl (y_move rfl) ?_
    refine rw_p rfl rfl (y_move rfl) ?_
    refine rw_p rfl rfl (y_mul rfl rfl (mulK 4 (by omega))) ?_
    refine rw_p rfl rfl (y_add rfl rfl (addK 2 (by omega))) ?_
    refine rw_p rfl rfl (y_index rfl rfl sl22 hp4 (by omega) (by omega)) ?_
    refine rw_p rfl rfl (y_el1 rfl sc5 (hp4 ▸ hx.ext0 hm0.to).nd encB_len hi2 rfl) ?_
    refine rw_p rfl rfl (y_conv rfl is5 it48 w_of8) ?_
    refine rw_p rfl rfl (y_shl rfl rfl (by decide) (w_shl 8 rfl (by decide))) ?_
    refine rw_p rfl rfl (y_or_ rfl rfl w_or) ?_
    refine rw_p rfl rfl (y_move rfl) ?_
    refine rw_p rfl rfl (y_move rfl) ?_
    refine rw_p rfl rfl (y_mul rfl rfl (mulK 4 (by omega))) ?_
    refine rw_p rfl rfl (y_add rfl rfl (addK 3 (by omega))) ?_
    refine rw_p rfl rfl (y_index rfl rfl sl22 hp4 (by omega) (by omega)) ?_
    refine rw_p rfl rfl (y_el1 rfl sc5 (hp4 ▸ hx.ext0 hm0.to).nd encB_len hi3 rfl) ?_
    refine rw_p rfl rfl (y_conv rfl is5 it48 w_of8) ?_
    refine a_cut ?_
    refine rw_p rfl rfl (y_or_ rfl rfl w_or) ?_
    refine a_buildSlice (l := [_]) rfl rfl sl44 z48 rfl rfl rfl rfl rfl rfl rfl hm trivial fun m1 w hg_m1 hm hh => ?_
    refine a_append rfl rfl rfl rfl rfl rfl sl44 sl44 z48 rfl rfl (Rd.row0 (hm.get (k := 0) rfl)) rfl ha_s hm 1 rfl (by omega) (by omega) fun p_s cap_s g_s b_s w ha_s hm => ?_
    replace ha_s := ha_s.to (show _ = (Pl.wordsB bs (x + 1)).flatMap encW by rw [Pl.wordsB_next, List.flatMap_append, hwb]; rfl)
    refine rw_p rfl rfl (y_assign rfl) ?_
    refine rw_done ?_
    refine gn_bl ?_
    refine gn_sq ?_
    refine HW_text (.pure 0 (.pure 1 (.pure 2 .done))) (by kernel_rfl) ?_
    refine rw_p rfl rfl (y_move rfl) ?_
    refine rw_p rfl rfl (y_add rfl rfl (i64w (by omega) (by omega))) ?_
    refine rw_p rfl rfl (y_assign rfl) ?_
    refine rw_done ?_
    exact next (x + 1, p_s, cap_s, g_s, b_s) (by simp only; omega) ⟨(hm.pick [1] rfl), ha_s, by simp only; omega⟩ ⟨nx x, rfl, rfl, rfl, trivial⟩
  ·
    obtain ⟨x, p_s, cap_s, g_s, b_s⟩ := x
    simp only at hm ha_s hk hc0 ⊢
    simp only [decide_eq_false_iff_not] at hc0
    obtain rfl : x = 16 := by omega
    refine HW_exit rfl ?_
    refine gx_sq (gx_lp ?_)
    refine gx_here ?_
    refine gn_sq ?_
    refine HW_seq rfl ?_
    refine HW_seq rfl ?_
    refine HW_text (.pure 0 .done) (by kernel_rfl) ?_
    refine rw_p rfl rfl (y_assign rfl) ?_
    refine rw_done ?_
    refine gn_sq ?_
    refine HW_block rfl ?_
    refine HW_loopK (ι := Nat × Option Addr × Nat × Nat × Blk) rfl (ks := [2]) (.cons rfl .nil) (fun x => [(5, .int .i64 ((16 + x.1 : Nat) : Int)), (3, .slice x.2.1 (16 + x.1) x.2.2.1)]) (fun x w => Mem w0 w No [(x.2.2.2.1, x.2.2.2.2)] ∧ Acc 48 1 x.2.1 (16 + x.1) x.2.2.1 ((Pl.sched (Pl.wordsB bs 16) x.1).flatMap encW) x.2.2.2.1 x.2.2.2.2 ∧ x.1 ≤ 48) (fun x => 48 - x.1) (0, p_s, cap_s, g_s, b_s) (⟨hm, ha_s, Nat.zero_le _⟩) ⟨rfl, rfl, trivial⟩ (fun x w hM => ?_)
    obtain ⟨hm, ha_s, hk⟩ := hM
    refine HW_seq rfl ?_
    refine HW_seq rfl ?_
    refine HW_text (.pure 0 (.pure 1 .done)) (by kernel_rfl) ?_
    refine rw_p rfl rfl (y_move rfl) ?_
    refine rw_p rfl rfl (y_lt rfl rfl) ?_
    refine rw_done ?_
    refine gn_sq ?_
    refine HW_cond rfl rfl (fun hc1 => ?_) (fun hc1 => ?_)
    ·
      obtain ⟨y, p_s, cap_s, g_s, b_s⟩ := x
      simp only at hm ha_s hk hc1 ⊢
      simp only [decide_eq_true_eq] at hc1
      have hsl : (Pl.sched (Pl.wordsB bs 16) y).length = 16 + y := by rw [Pl.sched_len, Pl.wordsB_len]
      have hg15 : (Pl.sched (Pl.wordsB bs 16) y)[16 + y - 15]? = some ((Pl.sched (Pl.wordsB bs 16) y).getD (y + 1) 0) := by rw [List.getD_eq_getElem?_getD, show 16 + y - 15 = y + 1 by omega, List.getElem?_eq_getElem (by omega)]; rfl
      have hg2 : (Pl.sched (Pl.wordsB bs 16) y)[16 + y - 2]? = some ((Pl.sched (Pl.wordsB bs 16) y).getD (y + 14) 0) := by rw [List.getD_eq_getElem?_getD, show 16 + y - 2 = y + 14 by omega, List.getElem?_eq_getElem (by omega)]; rfl
      have hg7 : (Pl.sched (Pl.wordsB bs 16) y)[16 + y - 7]? = some ((Pl.sched (Pl.wordsB bs 16) y).getD (y + 9) 0) := by rw [List.getD_eq_getElem?_getD, show 16 + y - 7 = y + 9 by omega, List.getElem?_eq_getElem (by omega)]; rfl
      have hg16 : (Pl.sched (Pl.wordsB bs 16) y)[16 + y - 16]? = some ((Pl.sched (Pl.wordsB bs 16) y).getD (y + 0) 0) := by rw [List.getD_eq_getElem?_getD, show 16 + y - 16 = y + 0 by omega, List.getElem?_eq_getElem (by omega)]; rfl
      refine HW_skip rfl ?_
      refine gn_sq ?_
      refine HW_seq rfl ?_
      refine HW_block rfl ?_
      refine HW_seq rfl ?_
      refine HW_text (.pure 0 (.pure 1 (.pure 2 (.pure 3 (.pure 4 (.pure 5 .done)))))) (by kernel_rfl) ?_
      refine rw_p rfl rfl (y_move rfl) ?_
      refine rw_p rfl rfl (y_move rfl) ?_
      refine rw_p rfl rfl (y_sub rfl rfl (subK 15 (by omega) (by omega))) ?_
      refine rw_p rfl rfl (y_index rfl rfl sl44 (ha_s.ptr (by omega)) (by omega) (by omega)) ?_
      refine rw_p rfl rfl (y_el1 rfl sc48 ((ha_s.ptr (by omega)) ▸ ha_s.rd hm 0 rfl).nt encW_len hg15 rfl) ?_
      refine rw_p rfl rfl (y_assign rfl) ?_
      refine rw_done ?_
      refine gn_sq ?_
      refine HW_seq rfl ?_
      refine HW_text (.pure 0 (.pure 1 (.pure 2 (.pure 3 (.pure 4 (.pure 5 .done)))))) (by kernel_rfl) ?_
      refine rw_p rfl rfl (y_move rfl) ?_
      refine rw_p rfl rfl (y_move rfl) ?_
      refine rw_p rfl rfl (y_sub rfl rfl (subK 2 (by omega) (by omega))) ?_
      refine rw_p rfl rfl (y_index rfl rfl sl44 (ha_s.ptr (by omega)) (by omega) (by omega)) ?_
      refine rw_p rfl rfl (y_el1 rfl sc48 ((ha_s.ptr (by omega)) ▸ ha_s.rd hm 0 rfl).nt encW_len hg2 rfl) ?_
      refine rw_p rfl rfl (y_assign rfl) ?_
      refine rw_done ?_
      refine gn_sq ?_
      refine HW_seq rfl ?_
      refine HW_text (.pure 0 (.act 1 (.pure 2 (.act 3 (.pure 4 (.pure 5 (.pure 6 (.pure 7 (.pure 8 .done))))))))) (by kernel_rfl) ?_
      refine rw_p rfl rfl (y_move rfl) ?_
      refine a_call rfl rfl rfl go36 (r2_rot _ 7 _ (by decide) (by decide)) fun v w hR => ?_
      obtain ⟨rfl, hE⟩ := hR
      refine ⟨trivial, ?_⟩
      replace hm := hm.ext hE
      refine rw_p rfl rfl (y_move rfl) ?_
      refine a_call rfl rfl rfl go36 (r2_rot _ 18 _ (by decide) (by decide)) fun v w hR => ?_
      obtain ⟨rfl, hE⟩ := hR
      refine ⟨trivial, ?_⟩
      replace hm := hm.ext hE
      refine rw_p rfl rfl (y_xor_ rfl rfl w_xor) ?_
      refine rw_p rfl rfl (y_move rfl) ?_
      refine rw_p rfl rfl (y_shr rfl rfl (by decide) (w_shr 3 rfl (by decide))) ?_
      refine rw_p rfl rfl (y_xor_ rfl rfl w_xor) ?_
      refine rw_p rfl rfl (y_assign rfl) ?_
      refine rw_done ?_
      refine gn_sq ?_
      refine HW_seq rfl ?_
      refine HW_text (.pure 0 (.act 1 (.pure 2 (.act 3 (.pure 4 (.pure 5 (.pure 6 (.pure 7 (.pure 8 .done))))))))) (by kernel_rfl) ?_
      refine rw_p rfl rfl (y_move rfl) ?_
      refine a_call rfl rfl rfl go36 (r2_rot _ 17 _ (by decide) (by decide)) fun v w hR => ?_
      obtain ⟨rfl, hE⟩ := hR
      refine ⟨trivial, ?_⟩
      replace hm := hm.ext hE
      refine rw_p rfl rfl (y_move rfl) ?_
      refine a_call rfl rfl rfl go36 (r2_rot _ 19 _ (by decide) (by decide)) fun v w hR => ?_
      obtain ⟨rfl, hE⟩ := hR
      refine ⟨trivial, ?_⟩
      replace hm := hm.ext hE
      refine rw_p rfl rfl (y_xor_ rfl rfl w_xor) ?_
      refine rw_p rfl rfl (y_move rfl) ?_
      refine rw_p rfl rfl (y_shr rfl rfl (by decide) (w_shr 10 rfl (by decide))) ?_
      refine rw_p rfl rfl (y_xor_ rfl rfl w_xor) ?_
      refine rw_p rfl rfl (y_assign rfl) ?_
      refine rw_done ?_
      refine gn_sq ?_
      refine HW_draw (.pure 0 (.pure 1 (.pure 2 (.pure 3 (.pure 4 (.pure 5 (.pure 6 (.pure 7 (.pure 8 (.pure 9 (.pure 10 (.pure 11 (.pure 12 (.pure 13 (.pure 14 (.cut (.pure 15 (.act 16 (.act 17 (.pure 18 .done)))))))))))))))))))) No mix (by kernel_rfl) hm fun w hw hm0 hh => ?_
      have hm := hm0
      refine rw_p rfl rfl (y_move rfl) ?_
      refine rw_p rfl rfl (y_move rfl) ?_
      refine rw_p rfl rfl (y_move rfl) ?_
      refine rw_p rfl rfl (y_move rfl) ?_
      refine rw_p rfl rfl (y_sub rfl rfl (subK 7 (by omega) (by omega))) ?_
      refine rw_p rfl rfl (y_index rfl rfl sl44 (ha_s.ptr (by omega)) (by omega) (by omega)) ?_
      refine rw_p rfl rfl (y_el1 rfl sc48 ((ha_s.ptr (by omega)) ▸ ha_s.rd hm0 0 rfl).nd encW_len hg7 rfl) ?_
      refine rw_p rfl rfl (y_add rfl rfl w_add) ?_
      refine rw_p rfl rfl (y_move rfl) ?_
      refine rw_p rfl rfl (y_add rfl rfl w_add) ?_
      refine rw_p rfl rfl (y_move rfl) ?_
      refine rw_p rfl rfl (y_move rfl) ?_
      refine rw_p rfl rfl (y_sub rfl rfl (subK 16 (by omega) (by omega))) ?_
      refine rw_p rfl rfl (y_index rfl rfl sl44 (ha_s.ptr (by omega)) (by omega) (by omega)) ?_
      refine rw_p rfl rfl (y_el1 rfl sc48 ((ha_s.ptr (by omega)) ▸ ha_s.rd hm0 0 rfl).nd encW_len hg16 rfl) ?_
      refine a_cut ?_
      refine rw_p rfl rfl (y_add rfl rfl w_add) ?_
      refine a_buildSlice (l := [_]) rfl rfl sl44 z48 rfl rfl rfl rfl rfl rfl rfl hm trivial fun m1 w hg_m1 hm hh => ?_
      refine a_append rfl rfl rfl rfl rfl rfl sl44 sl44 z48 rfl rfl (Rd.row0 (hm.get (k := 0) rfl)) rfl ha_s hm 1 rfl (by omega) (by omega) fun p_s cap_s g_s b_s w ha_s hm => ?_
      replace ha_s := ha_s.to (show _ = (Pl.sched (Pl.wordsB bs 16) (y + 1)).flatMap encW by simp only [Pl.sched, List.flatMap_append]; rfl)
      refine rw_p rfl rfl (y_assign rfl) ?_
      refine rw_done ?_
      refine gn_bl ?_
      refine gn_sq ?_
      refine HW_text (.pure 0 (.pure 1 (.pure 2 .done))) (by kernel_rfl) ?_
      refine rw_p rfl rfl (y_move rfl) ?_
      refine rw_p rfl rfl (y_add rfl rfl (addK (a := 16 + y) 1 (by omega))) ?_
      refine rw_p rfl rfl (y_assign rfl) ?_
      refine rw_done ?_
      exact next (y + 1, p_s, cap_s, g_s, b_s) (by simp only; omega) ⟨(hm.pick [1] rfl), ha_s, by simp only; omega⟩ ⟨rfl, rfl, rfl, trivial⟩
    ·
      obtain ⟨y, p_s, cap_s, g_s, b_s⟩ := x
      simp only at hm ha_s hk hc1 ⊢
      simp only [decide_eq_false_iff_not] at hc1
      obtain rfl : y = 48 := by omega
      refine HW_exit rfl ?_
      refine gx_sq (gx_lp ?_)
      refine gx_here ?_
      refine gn_sq ?_
      refine HW_seq rfl ?_
      refine HW_text (.pure 0 (.pure 1 .done)) (by kernel_rfl) ?_
      refine rw_p rfl rfl (y_move rfl) ?_
      refine rw_p rfl rfl (y_assign rfl) ?_
      refine rw_done ?_
      refine gn_sq ?_
      refine HW_ret rfl ?_
      refine toR (fin hret rfl (.tmp rfl .nil) .one ?_)
      exact ⟨p_s, cap_s, g_s, b_s, rfl, ha_s, (hm.pick [0] rfl)⟩

end Go.Proofs.Ytdiklnekplhhgaa
