/- Contracts of functions of the program: what each returns. Conditions: the hypotheses of each theorem. -/
import Derived.Test.YthailbggeafckaaGreatJnG
import Derived.Test.YthailbggeafckaaGreatR6
import Derived.Test.YthailbggeafckaaGreatPlO
set_option linter.unusedVariables false
set_option linter.unusedSimpArgs false
namespace Go.Proofs.YthailbggeafckaaGreat
open Go Go.Cx

theorem ft135 : fldT Tryz.prog 135 = some [(0, 1), (1, 1), (2, 1), (3, 1)] := by kernel_rfl
theorem go66 : isGo Tryz.prog 66 = true := by kernel_rfl
theorem go68 : isGo Tryz.prog 68 = true := by kernel_rfl
theorem go69 : isGo Tryz.prog 69 = true := by kernel_rfl
theorem go70 : isGo Tryz.prog 70 = true := by kernel_rfl
theorem z135 : zer Tryz.prog 135 = some [.slice none 0 0, .int .i64 0, .int .i64 0, .int .i64 0] := by kernel_rfl

set_option maxHeartbeats 1600000 in
theorem r21_decode (p : Option Addr) (cap : Nat) (bs : List UInt8) (w0 : World) (hx : Rd w0 p (bs.flatMap encB)) (hle : bs.length ≤ cap) (hsp : cap ≠ 0 → ∀ ad, p = some ad → ad.spot = none) (hl : bs.length ≤ 70368744177664) : C Tryz.prog 32 [.slice p bs.length cap] w0 fun v w' => ∃ q c g b, v = .tuple ⟨[.agg ⟨rcV ((Pl.rdec bs).getD Pl.rc0) q ((Pl.rdec bs).getD Pl.rc0).bs.length c⟩, .bool (Pl.rdec bs).isSome]⟩ ∧ Acc 5 1 q ((Pl.rdec bs).getD Pl.rc0).bs.length c (((Pl.rdec bs).getD Pl.rc0).bs.flatMap encB) g b ∧ Mem w0 w' No [(g, b)] := by
  have hl : bs.length ≤ 140737488355328 := by omega
  have hdr := Pl.rdec_ref bs
  refine C_of Tryz.func32 rfl rfl rfl fun κ hret hnorm => ?_
  have hm := Mem.start w0
  refine HW_seq rfl ?_
  refine HW_text (.act 0 (.pure 1 .done)) (by kernel_rfl) ?_
  refine a_alloc rfl rfl z78 hm trivial fun m1 w hg_m1 hm hh => ?_
  refine rw_p rfl rfl (y_assign rfl) ?_
  refine rw_done ?_
  refine gn_sq ?_
  refine HW_seq rfl ?_
  refine HW_text (.pure 0 (.pure 1 (.act 2 (.pure 3 .done)))) (by kernel_rfl) ?_
  refine rw_p rfl rfl (y_move rfl) ?_
  refine rw_p rfl rfl (y_build (cs := [_, _, _, _]) z135 ft135 rfl rfl rfl rfl rfl) ?_
  refine a_box rfl rfl rfl rfl hm trivial fun m2 w hg_m2 hm hh => ?_
  refine rw_p rfl rfl (y_assign rfl) ?_
  refine rw_done ?_
  refine gn_sq ?_
  refine HW_seq rfl ?_
  refine HW_text (.pure 0 (.act 1 (.act 2 (.act 3 .done)))) (by kernel_rfl) ?_
  refine rw_p rfl rfl (y_move rfl) ?_
  refine a_buildSlice (l := [_, _, _, _]) rfl rfl sl22 z5 rfl rfl rfl rfl rfl rfl rfl hm trivial fun m3 w hg_m3 hm hh => ?_
  refine a_mkd rfl rfl rfl cb22 hm 0 rfl fun w hm => ?_
  refine a_call rfl rfl rfl go66 (r6_expect m2 _ p cap bs ⟨0, 0, 0⟩ _ 4 Pl.magic 19 _ (hm.get (k := 1) rfl) (hx.ext0 hm.to) (hm.apartR hx 1 rfl) hle hsp (Nat.zero_le _) hl (Rd.mkd (hm.get (k := 0) rfl)) (fun _ ad e => by cases e; exact hm.ne 0 1 rfl rfl rfl) (by decide) (by decide) (fun _ ad e => by cases e; rfl)) fun v w hR => ?_
  obtain ⟨rfl, hmc⟩ := hR
  refine ⟨trivial, ?_⟩
  replace hm := hm.callJ 1 rfl hmc
  obtain ⟨s1, e1⟩ : ∃ s_, (Pl.rexpect bs ⟨0, 0, 0⟩ Pl.magic 19).1 = s_ := ⟨_, rfl⟩
  rw [e1] at hm
  have a1 : s1.at_ ≤ bs.length := by rw [← e1]; exact Pl.rexpect_at (Nat.zero_le _)
  refine rw_done ?_
  refine gn_sq ?_
  refine HW_seq rfl ?_
  refine HW_text (.pure 0 (.act 1 (.pure 2 (.act 3 (.act 4 .done))))) (by kernel_rfl) ?_
  refine rw_p rfl rfl (y_move rfl) ?_
  refine a_call rfl rfl rfl go67 (r6_uint m2 _ p cap bs s1 8 _ (hm.get (k := 1) rfl) (hx.ext0 hm.to) (hm.apartR hx 1 rfl) hle hsp a1 hl (by decide)) fun v w hR => ?_
  obtain ⟨rfl, hmc⟩ := hR
  refine ⟨trivial, ?_⟩
  replace hm := hm.callJ 1 rfl hmc
  obtain ⟨s2, e2⟩ : ∃ s_, (Pl.ruint bs s1 8).1 = s_ := ⟨_, rfl⟩
  rw [e2] at hm
  have a2 : s2.at_ ≤ bs.length := by rw [← e2]; exact Pl.ruint_at a1
  refine rw_p rfl rfl (y_build (cs := [_, _, _, _, _]) z78 ft78 rfl rfl rfl rfl rfl) ?_
  refine a_alloc rfl rfl z78 hm trivial fun m4 w hg_m4 hm hh => ?_
  refine a_store rfl rfl rfl rfl sz78 rfl hm 0 rfl rfl fun w hm => ?_
  refine rw_done ?_
  refine gn_sq ?_
  refine HW_seq rfl ?_
  refine HW_text (.pure 0 (.act 1 (.pure 2 (.act 3 .done)))) (by kernel_rfl) ?_
  refine rw_p rfl rfl (y_move rfl) ?_
  refine a_call rfl rfl rfl go67 (r6_uint m2 _ p cap bs s2 8 _ (hm.get (k := 2) rfl) (hx.ext0 hm.to) (hm.apartR hx 2 rfl) hle hsp a2 hl (by decide)) fun v w hR => ?_
  obtain ⟨rfl, hmc⟩ := hR
  refine ⟨trivial, ?_⟩
  replace hm := hm.callJ 2 rfl hmc
  obtain ⟨s3, e3⟩ : ∃ s_, (Pl.ruint bs s2 8).1 = s_ := ⟨_, rfl⟩
  rw [e3] at hm
  have a3 : s3.at_ ≤ bs.length := by rw [← e3]; exact Pl.ruint_at a2
  refine rw_p rfl rfl (y_fieldAddr rfl fo78_1) ?_
  refine a_store rfl rfl rfl rfl sz23 rfl hm 0 rfl rfl fun w hm => ?_
  refine rw_done ?_
  refine gn_sq ?_
  refine HW_seq rfl ?_
  refine HW_text (.pure 0 (.act 1 (.pure 2 (.act 3 .done)))) (by kernel_rfl) ?_
  refine rw_p rfl rfl (y_move rfl) ?_
  refine a_call rfl rfl rfl go68 (r6_length m2 _ p cap bs s3 _ (hm.get (k := 2) rfl) (hx.ext0 hm.to) (hm.apartR hx 2 rfl) hle hsp a3 hl) fun v w hR => ?_
  obtain ⟨rfl, hmc⟩ := hR
  refine ⟨trivial, ?_⟩
  replace hm := hm.callJ 2 rfl hmc
  obtain ⟨s4, e4⟩ : ∃ s_, (Pl.rlength bs s3).1 = s_ := ⟨_, rfl⟩
  rw [e4] at hm
  have a4 : s4.at_ ≤ bs.length := by rw [← e4]; exact Pl.rlength_at a3
  refine rw_p rfl rfl (y_fieldAddr rfl fo78_2) ?_
  refine a_store rfl rfl rfl rfl sz3 rfl hm 0 rfl rfl fun w hm => ?_
  refine rw_done ?_
  refine gn_sq ?_
  refine HW_seq rfl ?_
  refine HW_text (.pure 0 (.act 1 (.pure 2 (.act 3 .done)))) (by kernel_rfl) ?_
  refine rw_p rfl rfl (y_move rfl) ?_
  refine a_call rfl rfl rfl go68 (r6_length m2 _ p cap bs s4 _ (hm.get (k := 2) rfl) (hx.ext0 hm.to) (hm.apartR hx 2 rfl) hle hsp a4 hl) fun v w hR => ?_
  obtain ⟨rfl, hmc⟩ := hR
  refine ⟨trivial, ?_⟩
  replace hm := hm.callJ 2 rfl hmc
  obtain ⟨s5, e5⟩ : ∃ s_, (Pl.rlength bs s4).1 = s_ := ⟨_, rfl⟩
  rw [e5] at hm
  have a5 : s5.at_ ≤ bs.length := by rw [← e5]; exact Pl.rlength_at a4
  refine rw_p rfl rfl (y_fieldAddr rfl fo78_3) ?_
  refine a_store rfl rfl rfl rfl sz3 rfl hm 0 rfl rfl fun w hm => ?_
  refine rw_done ?_
  refine gn_sq ?_
  refine HW_seq rfl ?_
  refine HW_text (.pure 0 (.act 1 (.pure 2 (.pure 3 .done)))) (by kernel_rfl) ?_
  refine rw_p rfl rfl (y_move rfl) ?_
  refine a_call rfl rfl rfl go67 (r6_uint m2 _ p cap bs s5 4 _ (hm.get (k := 2) rfl) (hx.ext0 hm.to) (hm.apartR hx 2 rfl) hle hsp a5 hl (by decide)) fun v w hR => ?_
  obtain ⟨rfl, hmc⟩ := hR
  refine ⟨trivial, ?_⟩
  replace hm := hm.callJ 2 rfl hmc
  obtain ⟨s6, e6⟩ : ∃ s_, (Pl.ruint bs s5 4).1 = s_ := ⟨_, rfl⟩
  rw [e6] at hm
  have a6 : s6.at_ ≤ bs.length := by rw [← e6]; exact Pl.ruint_at a5
  have hn4 := Pl.ruint4 bs s5
  obtain ⟨X, hX⟩ : ∃ X, Pl.rd5 bs = X := ⟨_, rfl⟩
  have hX2 := hX
  unfold Pl.rd5 at hX2
  simp only [e1, e2, e3, e4, e5, e6] at hX2
  have hXs : X.st = s6 := by rw [← hX2]
  have hXn : X.n = (Pl.ruint bs s5 4).2 := by rw [← hX2]
  have hXa : X.sq = (Pl.ruint bs s1 8).2 := by rw [← hX2]
  have hXb : X.id = (Pl.ruint bs s2 8).2 := by rw [← hX2]
  have hXc : X.cu = (Pl.rlength bs s3).2 := by rw [← hX2]
  have hXd : X.of = (Pl.rlength bs s4).2 := by rw [← hX2]
  clear hX2
  have hB1 : Pl.rtake bs.length s6 (Pl.ruint bs s5 4).2 = Pl.rB1 bs := by unfold Pl.rB1; rw [hX, hXs, hXn]
  obtain ⟨n4, hn4e⟩ : ∃ n, (Pl.ruint bs s5 4).2 = n := ⟨_, rfl⟩
  rw [hn4e] at hB1 hn4 hXn
  rw [hn4e]
  refine rw_p rfl rfl (y_conv rfl is23 it3 (i64w (by omega) (by omega))) ?_
  refine rw_p rfl rfl (y_assign rfl) ?_
  refine rw_done ?_
  refine gn_sq ?_
  refine HW_seq rfl ?_
  cases hok : (Pl.rB1 bs).2
  ·
    have hDat : Pl.rDat bs = [] := by unfold Pl.rDat; rw [hok]; rfl
    refine HW_text (.act 0 (.pure 1 (.pure 2 (.act 3 (.act 4 (.pure 5 (.act 6 .done))))))) (by kernel_rfl) ?_
    refine a_buildSlice (l := []) rfl rfl sl22 z5 rfl rfl rfl rfl rfl rfl rfl hm trivial fun m5 w hg_m5 hm hh => ?_
    refine rw_p rfl rfl (y_move rfl) ?_
    refine rw_p rfl rfl (y_move rfl) ?_
    refine a_call rfl rfl rfl go69 (r6_bytes m2 _ p cap bs s6 n4 _ (hm.get (k := 3) rfl) hle hsp a6 hl (by omega)) fun v w hR => ?_
    obtain ⟨rfl, hmc⟩ := hR
    refine ⟨trivial, ?_⟩
    replace hm := hm.callJ 3 rfl hmc
    rw [hB1] at hm ⊢
    rw [hok]
    simp only [tkV, cond_true, cond_false]
    obtain ⟨s7, e7⟩ : ∃ s_, (Pl.rB1 bs).1 = s_ := ⟨_, rfl⟩
    rw [e7] at hm
    have a7 : s7.at_ ≤ bs.length := by rw [← e7, ← hB1]; exact Pl.rtake_at a6
    have hB2 : Pl.rtake bs.length s7 4 = Pl.rB2 bs := by unfold Pl.rB2; rw [e7]
    refine a_append rfl rfl rfl rfl rfl rfl sl22 sl22 z5 rfl (oneB []) (show Rd _ none (([] : List UInt8).flatMap encB) from rfl) (lenB []) (Acc.row rfl) hm 0 rfl (by decide) (by decide) fun p_s cap_s g_s b_s w ha_s hm => ?_
    refine rw_p rfl rfl (y_fieldAddr rfl fo78_4) ?_
    refine a_store rfl rfl rfl rfl sz22 rfl hm 1 rfl rfl fun w hm => ?_
    refine rw_done ?_
    refine gn_sq ?_
    refine HW_seq rfl ?_
    refine HW_text (.pure 0 (.act 1 .done)) (by kernel_rfl) ?_
    refine rw_p rfl rfl (y_move rfl) ?_
    refine a_call rfl rfl rfl go69 (r6_bytes m2 _ p cap bs s7 4 _ (hm.get (k := 3) rfl) hle hsp a7 hl (by decide)) fun v w hR => ?_
    obtain ⟨rfl, hmc⟩ := hR
    refine ⟨trivial, ?_⟩
    replace hm := hm.callJ 3 rfl hmc
    rw [hB2] at hm
    replace ha_s := ha_s.to (show _ = (Pl.rDat bs).flatMap encB by rw [hDat]; simp)
    have hns := ha_s.lenB
    obtain ⟨s8, e8⟩ : ∃ s_, (Pl.rB2 bs).1 = s_ := ⟨_, rfl⟩
    rw [e8] at hm hdr
    have a8 : s8.at_ ≤ bs.length := by rw [← e8, ← hB2]; exact Pl.rtake_at a7
    rw [hX] at hdr
    refine rw_done ?_
    refine gn_sq ?_
    refine HW_seq rfl ?_
    refine HW_seq rfl ?_
    have hop : (if (decide (4 ≤ (bs.take s8.at_).length) && decide ((bs.take s8.at_).drop ((bs.take s8.at_).length - 4) = Pl.leS (Pl.crc ((bs.take s8.at_).take ((bs.take s8.at_).length - 4))))) = true then (((bs.take s8.at_).length : Nat) : Int) - 4 else -1) < 0 ↔ ¬ Pl.sumOk (bs.take s8.at_) = true := by
      unfold Pl.sumOk
      split
      · rename_i h9; have h8 := h9; simp only [Bool.and_eq_true, decide_eq_true_eq] at h8; constructor
        · intro h7; omega
        · intro h7; exact absurd h9 h7
      · rename_i h9; exact ⟨fun _ => h9, fun _ => by decide⟩
    ·
      refine HW_text (.pure 0 (.pure 1 (.pure 2 (.pure 3 (.pure 4 (.pure 5 (.pure 6 (.pure 7 (.pure 8 (.pure 9 (.pure 10 (.pure 11 (.pure 12 (.pure 13 (.pure 14 (.pure 15 (.act 16 (.pure 17 (.pure 18 .done))))))))))))))))))) (by kernel_rfl) ?_
      refine rw_p rfl rfl (y_move rfl) ?_
      refine rw_p rfl rfl (y_nil rfl) ?_
      refine rw_p rfl rfl (y_fieldAddr rfl fo135_2) ?_
      refine rw_p rfl rfl (y_load rfl sc3 (hm.nt 3 rfl) rfl) ?_
      refine rw_p rfl rfl (y_ne rfl rfl) ?_
      refine rw_p rfl rfl (y_move rfl) ?_
      refine rw_g rfl rfl rfl (fun hc => (y_move rfl)) ?_
      refine rw_g rfl rfl rfl (fun hc => (y_gt (gx hc rfl) rfl)) ?_
      refine rw_p rfl rfl (y_or rfl rfl rfl) ?_
      refine rw_p rfl rfl (y_move rfl) ?_
      refine rw_g rfl rfl rfl (fun hc => (y_move rfl)) ?_
      refine rw_g rfl rfl rfl (fun hc => (y_move rfl)) ?_
      refine rw_g rfl rfl rfl (fun hc => (y_nil (gx hc rfl))) ?_
      refine rw_g rfl rfl rfl (fun hc => (y_fieldAddr (gx hc rfl) fo135_1)) ?_
      refine rw_g rfl rfl rfl (fun hc => (y_load (gx hc rfl) sc3 (hm.nt 3 rfl) rfl)) ?_
      refine rw_g rfl rfl rfl (fun hc => (y_v (y_slice (ln := 0) (hn := s8.at_) (gx hc rfl) sl22 rfl ⟨_, (gx hc rfl)⟩ (Nat.zero_le _) (by omega) (fun h => hsp (by omega))) (show _ = Value.slice (slp p cap 0 1) (bs.take s8.at_).length cap by rw [List.length_take, Nat.min_eq_left a8]; rfl))) ?_
      refine a_callG rfl rfl rfl (fun hc => (evs_c (gx hc rfl) evs_n)) go70 (fun hc => (r3_open (slp p cap 0 1) cap (bs.take s8.at_) _ ((hx.ext0 hm.to).takeV hle) (by rw [List.length_take]; omega) (fun h ad e => slp_spot0 hsp h e) (by rw [List.length_take]; omega))) trivial fun w hE hh => ?_
      replace hm := hm.ext hE
      refine rw_g rfl rfl rfl (fun hc => (y_lt (gx hc rfl) rfl)) ?_
      refine rw_p rfl rfl (y_or rfl rfl rfl) ?_
      refine rw_done ?_
      refine gn_sq ?_
      refine HW_cond rfl rfl (fun hc0 => ?_) (fun hc0 => ?_)
      ·
        simp only [Bool.or_eq_true, decide_eq_true_eq] at hc0
        have hD : Pl.rdec bs = none := by rw [hdr, if_neg]; rw [hXn]; rintro ⟨g1, g2, g3⟩; rcases hc0 with (h9 | h9) | h9; exact h9 g1; omega; exact (hop.1 h9) g3
        refine HW_seq rfl ?_
        refine HW_text (.pure 0 (.act 1 (.pure 2 .done))) (by kernel_rfl) ?_
        refine rw_p rfl rfl (y_build (cs := [_, _, _, _, _]) z78 ft78 rfl rfl rfl rfl rfl) ?_
        refine a_store rfl rfl rfl rfl sz78 rfl hm 4 rfl rfl fun w hm => ?_
        refine rw_p rfl rfl (y_assign rfl) ?_
        refine rw_done ?_
        refine gn_sq ?_
        refine HW_ret rfl ?_
        refine gr_sq ?_
        refine toR (fin hret rfl (.cell rfl (run_loadVar_a (vs := [_, _, _, _, _]) ag78 (hm.get (k := 4) rfl) rfl) (.tmp rfl .nil)) .more ?_)
        exact ⟨none, 0, 0, .gap, by rw [hD]; rfl, by rw [hD]; exact .nil _ _ _ _, (hm.drop (List.nil_sublist _)).gapIn⟩
      ·
        simp only [Bool.or_eq_false_iff, decide_eq_false_iff_not, Decidable.not_not] at hc0
        have hgo : s8.code = 0 ∧ X.n ≤ 1048576 ∧ Pl.sumOk (bs.take s8.at_) = true := ⟨hc0.1.1, by rw [hXn]; omega, Decidable.byContradiction fun h9 => hc0.2 (hop.2 h9)⟩
        have hD : Pl.rdec bs = some ⟨X.sq, X.id, X.cu, X.of, Pl.rDat bs⟩ := by rw [hdr, if_pos hgo]
        rw [hXa, hXb, hXc, hXd] at hD
        refine HW_skip rfl ?_
        refine gn_sq ?_
        refine HW_seq rfl ?_
        refine HW_text (.pure 0 (.act 1 (.pure 2 .done))) (by kernel_rfl) ?_
        refine rw_p rfl rfl (y_loadA (s := 5) (vs := [_, _, _, _, _]) rfl ag78 (hm.nt 1 rfl) rfl) ?_
        refine a_store rfl rfl rfl rfl sz78 rfl hm 4 rfl rfl fun w hm => ?_
        refine rw_p rfl rfl (y_assign rfl) ?_
        refine rw_done ?_
        refine gn_sq ?_
        refine HW_ret rfl ?_
        refine toR (fin hret rfl (.cell rfl (run_loadVar_a (vs := [_, _, _, _, _]) ag78 (hm.get (k := 4) rfl) rfl) (.tmp rfl .nil)) .more ?_)
        exact ⟨p_s, cap_s, g_s, b_s, by rw [hD]; simp only [Option.getD_some, Option.isSome_some, ← hns]; rfl, by rw [hD]; simp only [Option.getD_some, ← hns]; exact ha_s, (hm.pick [0] rfl)⟩
  ·
    have htk := Pl.rtake_ok (show (Pl.rtake bs.length s6 n4).2 = true by rw [hB1]; exact hok)
    have hDat : Pl.rDat bs = (bs.drop s6.at_).take n4.toNat := by unfold Pl.rDat; rw [if_pos hok, hX, hXs, hXn]
    have hDl : ((bs.drop s6.at_).take n4.toNat).length = n4.toNat := by rw [List.length_take, List.length_drop]; omega
    refine HW_text (.act 0 (.pure 1 (.pure 2 (.act 3 (.act 4 (.pure 5 (.act 6 .done))))))) (by kernel_rfl) ?_
    refine a_buildSlice (l := []) rfl rfl sl22 z5 rfl rfl rfl rfl rfl rfl rfl hm trivial fun m5 w hg_m5 hm hh => ?_
    refine rw_p rfl rfl (y_move rfl) ?_
    refine rw_p rfl rfl (y_move rfl) ?_
    refine a_call rfl rfl rfl go69 (r6_bytes m2 _ p cap bs s6 n4 _ (hm.get (k := 3) rfl) hle hsp a6 hl (by omega)) fun v w hR => ?_
    obtain ⟨rfl, hmc⟩ := hR
    refine ⟨trivial, ?_⟩
    replace hm := hm.callJ 3 rfl hmc
    rw [hB1] at hm ⊢
    rw [hok]
    simp only [tkV, cond_true, cond_false]
    obtain ⟨s7, e7⟩ : ∃ s_, (Pl.rB1 bs).1 = s_ := ⟨_, rfl⟩
    rw [e7] at hm
    have a7 : s7.at_ ≤ bs.length := by rw [← e7, ← hB1]; exact Pl.rtake_at a6
    have hB2 : Pl.rtake bs.length s7 4 = Pl.rB2 bs := by unfold Pl.rB2; rw [e7]
    refine a_append rfl rfl rfl rfl rfl rfl sl22 sl22 z5 rfl (oneB _) ((hx.ext0 hm.to).sub (l := s6.at_) (m := n4.toNat) hle) ((lenB _).trans (by rw [hDl])) (Acc.row rfl) hm 0 rfl (by rw [Nat.zero_add]; omega) (by omega) fun p_s cap_s g_s b_s w ha_s hm => ?_
    refine rw_p rfl rfl (y_fieldAddr rfl fo78_4) ?_
    refine a_store rfl rfl rfl rfl sz22 rfl hm 1 rfl rfl fun w hm => ?_
    refine rw_done ?_
    refine gn_sq ?_
    refine HW_seq rfl ?_
    refine HW_text (.pure 0 (.act 1 .done)) (by kernel_rfl) ?_
    refine rw_p rfl rfl (y_move rfl) ?_
    refine a_call rfl rfl rfl go69 (r6_bytes m2 _ p cap bs s7 4 _ (hm.get (k := 3) rfl) hle hsp a7 hl (by decide)) fun v w hR => ?_
    obtain ⟨rfl, hmc⟩ := hR
    refine ⟨trivial, ?_⟩
    replace hm := hm.callJ 3 rfl hmc
    rw [hB2] at hm
    replace ha_s := ha_s.to (show _ = (Pl.rDat bs).flatMap encB by rw [hDat]; simp)
    have hns := ha_s.lenB
    obtain ⟨s8, e8⟩ : ∃ s_, (Pl.rB2 bs).1 = s_ := ⟨_, rfl⟩
    rw [e8] at hm hdr
    have a8 : s8.at_ ≤ bs.length := by rw [← e8, ← hB2]; exact Pl.rtake_at a7
    rw [hX] at hdr
    refine rw_done ?_
    refine gn_sq ?_
    refine HW_seq rfl ?_
    refine HW_seq rfl ?_
    have hop : (if (decide (4 ≤ (bs.take s8.at_).length) && decide ((bs.take s8.at_).drop ((bs.take s8.at_).length - 4) = Pl.leS (Pl.crc ((bs.take s8.at_).take ((bs.take s8.at_).length - 4))))) = true then (((bs.take s8.at_).length : Nat) : Int) - 4 else -1) < 0 ↔ ¬ Pl.sumOk (bs.take s8.at_) = true := by
      unfold Pl.sumOk
      split
      · rename_i h9; have h8 := h9; simp only [Bool.and_eq_true, decide_eq_true_eq] at h8; constructor
        · intro h7; omega
        · intro h7; exact absurd h9 h7
      · rename_i h9; exact ⟨fun _ => h9, fun _ => by decide⟩
    ·
      refine HW_text (.pure 0 (.pure 1 (.pure 2 (.pure 3 (.pure 4 (.pure 5 (.pure 6 (.pure 7 (.pure 8 (.pure 9 (.pure 10 (.pure 11 (.pure 12 (.pure 13 (.pure 14 (.pure 15 (.act 16 (.pure 17 (.pure 18 .done))))))))))))))))))) (by kernel_rfl) ?_
      refine rw_p rfl rfl (y_move rfl) ?_
      refine rw_p rfl rfl (y_nil rfl) ?_
      refine rw_p rfl rfl (y_fieldAddr rfl fo135_2) ?_
      refine rw_p rfl rfl (y_load rfl sc3 (hm.nt 3 rfl) rfl) ?_
      refine rw_p rfl rfl (y_ne rfl rfl) ?_
      refine rw_p rfl rfl (y_move rfl) ?_
      refine rw_g rfl rfl rfl (fun hc => (y_move rfl)) ?_
      refine rw_g rfl rfl rfl (fun hc => (y_gt (gx hc rfl) rfl)) ?_
      refine rw_p rfl rfl (y_or rfl rfl rfl) ?_
      refine rw_p rfl rfl (y_move rfl) ?_
      refine rw_g rfl rfl rfl (fun hc => (y_move rfl)) ?_
      refine rw_g rfl rfl rfl (fun hc => (y_move rfl)) ?_
      refine rw_g rfl rfl rfl (fun hc => (y_nil (gx hc rfl))) ?_
      refine rw_g rfl rfl rfl (fun hc => (y_fieldAddr (gx hc rfl) fo135_1)) ?_
      refine rw_g rfl rfl rfl (fun hc => (y_load (gx hc rfl) sc3 (hm.nt 3 rfl) rfl)) ?_
      refine rw_g rfl rfl rfl (fun hc => (y_v (y_slice (ln := 0) (hn := s8.at_) (gx hc rfl) sl22 rfl ⟨_, (gx hc rfl)⟩ (Nat.zero_le _) (by omega) (fun h => hsp (by omega))) (show _ = Value.slice (slp p cap 0 1) (bs.take s8.at_).length cap by rw [List.length_take, Nat.min_eq_left a8]; rfl))) ?_
      refine a_callG rfl rfl rfl (fun hc => (evs_c (gx hc rfl) evs_n)) go70 (fun hc => (r3_open (slp p cap 0 1) cap (bs.take s8.at_) _ ((hx.ext0 hm.to).takeV hle) (by rw [List.length_take]; omega) (fun h ad e => slp_spot0 hsp h e) (by rw [List.length_take]; omega))) trivial fun w hE hh => ?_
      replace hm := hm.ext hE
      refine rw_g rfl rfl rfl (fun hc => (y_lt (gx hc rfl) rfl)) ?_
      refine rw_p rfl rfl (y_or rfl rfl rfl) ?_
      refine rw_done ?_
      refine gn_sq ?_
      refine HW_cond rfl rfl (fun hc0 => ?_) (fun hc0 => ?_)
      ·
        simp only [Bool.or_eq_true, decide_eq_true_eq] at hc0
        have hD : Pl.rdec bs = none := by rw [hdr, if_neg]; rw [hXn]; rintro ⟨g1, g2, g3⟩; rcases hc0 with (h9 | h9) | h9; exact h9 g1; omega; exact (hop.1 h9) g3
        refine HW_seq rfl ?_
        refine HW_text (.pure 0 (.act 1 (.pure 2 .done))) (by kernel_rfl) ?_
        refine rw_p rfl rfl (y_build (cs := [_, _, _, _, _]) z78 ft78 rfl rfl rfl rfl rfl) ?_
        refine a_store rfl rfl rfl rfl sz78 rfl hm 4 rfl rfl fun w hm => ?_
        refine rw_p rfl rfl (y_assign rfl) ?_
        refine rw_done ?_
        refine gn_sq ?_
        refine HW_ret rfl ?_
        refine gr_sq ?_
        refine toR (fin hret rfl (.cell rfl (run_loadVar_a (vs := [_, _, _, _, _]) ag78 (hm.get (k := 4) rfl) rfl) (.tmp rfl .nil)) .more ?_)
        exact ⟨none, 0, 0, .gap, by rw [hD]; rfl, by rw [hD]; exact .nil _ _ _ _, (hm.drop (List.nil_sublist _)).gapIn⟩
      ·
        simp only [Bool.or_eq_false_iff, decide_eq_false_iff_not, Decidable.not_not] at hc0
        have hgo : s8.code = 0 ∧ X.n ≤ 1048576 ∧ Pl.sumOk (bs.take s8.at_) = true := ⟨hc0.1.1, by rw [hXn]; omega, Decidable.byContradiction fun h9 => hc0.2 (hop.2 h9)⟩
        have hD : Pl.rdec bs = some ⟨X.sq, X.id, X.cu, X.of, Pl.rDat bs⟩ := by rw [hdr, if_pos hgo]
        rw [hXa, hXb, hXc, hXd] at hD
        refine HW_skip rfl ?_
        refine gn_sq ?_
        refine HW_seq rfl ?_
        refine HW_text (.pure 0 (.act 1 (.pure 2 .done))) (by kernel_rfl) ?_
        refine rw_p rfl rfl (y_loadA (s := 5) (vs := [_, _, _, _, _]) rfl ag78 (hm.nt 1 rfl) rfl) ?_
        refine a_store rfl rfl rfl rfl sz78 rfl hm 4 rfl rfl fun w hm => ?_
        refine rw_p rfl rfl (y_assign rfl) ?_
        refine rw_done ?_
        refine gn_sq ?_
        refine HW_ret rfl ?_
        refine toR (fin hret rfl (.cell rfl (run_loadVar_a (vs := [_, _, _, _, _]) ag78 (hm.get (k := 4) rfl) rfl) (.tmp rfl .nil)) .more ?_)
        exact ⟨p_s, cap_s, g_s, b_s, by rw [hD]; simp only [Option.getD_some, Option.isSome_some, ← hns]; rfl, by rw [hD]; simp only [Option.getD_some, ← hns]; exact ha_s, (hm.pick [0] rfl)⟩

end Go.Proofs.YthailbggeafckaaGreat
