/- Contracts of functions of the program: what each returns. Conditions: the hypotheses of each theorem. -/
import Derived.Test.YtpandemmaoeioaaByt
set_option linter.unusedVariables false
set_option linter.unusedSimpArgs false
namespace Go.Proofs.Ytpandemmaoeioaa
open Go Go.Cx

theorem it3 : intO Try.prog 3 = some .i64 := by kernel_rfl
theorem ag87 : aggS Try.prog 87 = some 2 := by kernel_rfl
theorem fo34_0 : fldO Try.prog 34 0 = some 0 := by kernel_rfl
theorem fo34_1 : fldO Try.prog 34 1 = some 1 := by kernel_rfl
theorem fo34_3 : fldO Try.prog 34 3 = some 3 := by kernel_rfl
theorem fo34_4 : fldO Try.prog 34 4 = some 4 := by kernel_rfl
theorem ft87 : fldT Try.prog 87 = some [(0, 2)] := by kernel_rfl
theorem sc32 : scal Try.prog 32 = true := by kernel_rfl
theorem sz87 : szO Try.prog 87 = some 2 := by kernel_rfl
theorem z87 : zer Try.prog 87 = some [.int .i64 0, .int .i64 0] := by kernel_rfl
theorem ag34 : aggS Try.prog 34 = some 5 := by kernel_rfl
theorem fv87_0 : fldV Try.prog 87 0 = some (0, 2, true) := by kernel_rfl
theorem go50 : isGo Try.prog 50 = true := by kernel_rfl
theorem fo34_2 : fldO Try.prog 34 2 = some 2 := by kernel_rfl
theorem ft34 : fldT Try.prog 34 = some [(0, 1), (1, 1), (2, 1), (3, 1), (4, 1)] := by kernel_rfl
theorem sz34 : szO Try.prog 34 = some 5 := by kernel_rfl
theorem z34 : zer Try.prog 34 = some [.int .i64 0, .int .i64 0, .int .i64 0, .int .i64 0, .slice none 0 0] := by kernel_rfl
theorem go40 : isGo Try.prog 40 = true := by kernel_rfl
theorem go34 : isGo Try.prog 34 = true := by kernel_rfl
theorem go48 : isGo Try.prog 48 = true := by kernel_rfl
theorem go49 : isGo Try.prog 49 = true := by kernel_rfl
theorem bt32_9 : bts Try.prog 32 9 = true := by kernel_rfl

theorem grow_b0 (n : Nat) (w0 : World) (hn : n ≤ 140737488355328) : C Try.prog 75 [.slice none 0 0, .int .i64 n] w0 fun v w' => ∃ p cap g b, v = .slice p 0 cap ∧ Acc 5 1 p 0 cap [] g b ∧ Mem w0 w' No [(g, b)] := by
  refine C_of Try.func75 rfl rfl rfl fun κ hret hnorm => ?_
  have hm := Mem.start w0
  refine HW_seq rfl ?_
  refine HW_text (.pure 0 .done) (by kernel_rfl) ?_
  refine rw_p rfl rfl (y_assign rfl) ?_
  refine rw_done ?_
  refine gn_sq ?_
  refine HW_seq rfl ?_
  refine HW_seq rfl ?_
  refine HW_text (.pure 0 (.pure 1 .done)) (by kernel_rfl) ?_
  refine rw_p rfl rfl (y_move rfl) ?_
  refine rw_p rfl rfl (y_lt rfl rfl) ?_
  refine rw_done ?_
  refine gn_sq ?_
  refine HW_condF rfl rfl (decide_eq_false (by omega)) ?_
  refine HW_skip rfl ?_
  refine gn_sq ?_
  refine HW_seq rfl ?_
  refine HW_seq rfl ?_
  refine HW_text (.pure 0 (.pure 1 (.pure 2 (.pure 3 (.pure 4 (.pure 5 (.pure 6 (.pure 7 .done)))))))) (by kernel_rfl) ?_
  refine rw_p rfl rfl (y_move rfl) ?_
  refine rw_p rfl rfl (y_move rfl) ?_
  refine rw_p rfl rfl (y_cap rfl rfl sl32) ?_
  refine rw_p rfl rfl (y_move rfl) ?_
  refine rw_p rfl rfl (y_len rfl rfl sl32) ?_
  refine rw_p rfl rfl (y_sub rfl rfl (i64w (by omega) (by omega))) ?_
  refine rw_p rfl rfl (y_sub rfl rfl ((i64w (by simp <;> omega) (by simp <;> omega)).trans (by simp : (n : Int) - ((0 : Nat) - (0 : Nat)) = (n : Int)))) ?_
  refine rw_p rfl rfl (y_assign rfl) ?_
  refine rw_done ?_
  refine gn_sq ?_
  refine HW_seq rfl ?_
  refine HW_text (.pure 0 (.pure 1 .done)) (by kernel_rfl) ?_
  refine rw_p rfl rfl (y_move rfl) ?_
  refine rw_p rfl rfl (y_gt rfl rfl) ?_
  refine rw_done ?_
  refine gn_sq ?_
  refine HW_cond rfl rfl (fun hc1 => ?_) (fun hc1 => ?_)
  ·
    simp only [Bool.and_eq_true, Bool.or_eq_true, Bool.and_eq_false_iff, Bool.or_eq_false_iff, Bool.not_eq_true', Bool.not_eq_false', decide_eq_true_eq, decide_eq_false_iff_not] at hc1
    refine HW_text (.pure 0 (.pure 1 (.pure 2 (.pure 3 (.pure 4 (.act 5 (.pure 6 (.pure 7 (.pure 8 (.pure 9 .done)))))))))) (by kernel_rfl) ?_
    refine rw_p rfl rfl (y_move rfl) ?_
    refine rw_p rfl rfl (y_move rfl) ?_
    refine rw_p rfl rfl (y_cap rfl rfl sl32) ?_
    refine rw_p rfl rfl (y_v (y_slice (ln := 0) (hn := 0) rfl sl32 rfl ⟨_, rfl⟩ (Nat.le_refl _) (Nat.le_refl _) (fun h => absurd rfl h)) (show _ = Value.slice none 0 0 from rfl)) ?_
    replace hm := hm.gapIn
    have ha_z := Acc.nil 5 1 none 0
    refine rw_p rfl rfl (y_move rfl) ?_
    refine a_appendZ rfl rfl rfl rfl rfl rfl sl32 it3 z5 rfl rfl ha_z hm 0 rfl (by omega) (by omega) fun p_z cap_z g_z b_z w ha_z hm => ?_
    refine rw_p rfl rfl (y_move rfl) ?_
    refine rw_p rfl rfl (y_len rfl rfl sl32) ?_
    refine rw_p rfl rfl (y_v (y_slice (ln := 0) (hn := 0) rfl sl32 rfl ⟨_, rfl⟩ (Nat.le_refl _) (Nat.zero_le _) (fun h => ha_z.spot h)) (show _ = Value.slice p_z 0 cap_z by rw [slp_zero' ha_z.spot]; rfl)) ?_
    refine rw_p rfl rfl (y_assign rfl) ?_
    refine rw_done ?_
    refine gn_sq ?_
    refine HW_seq rfl ?_
    refine HW_text (.pure 0 (.pure 1 .done)) (by kernel_rfl) ?_
    refine rw_p rfl rfl (y_move rfl) ?_
    refine rw_p rfl rfl (y_assign rfl) ?_
    refine rw_done ?_
    refine gn_sq ?_
    refine HW_ret rfl ?_
    refine toR (fin hret rfl (.tmp rfl .nil) .one ?_)
    first | exact ⟨none, 0, 0, .gap, rfl, .nil _ _ _ _, hm.gapIn⟩ | exact ⟨p_z, cap_z, g_z, b_z, rfl, ha_z.cut0, hm⟩
  ·
    have hn0 : n = 0 := by simp at hc1; omega
    refine HW_skip rfl ?_
    refine gn_sq ?_
    refine HW_seq rfl ?_
    refine HW_text (.pure 0 (.pure 1 .done)) (by kernel_rfl) ?_
    refine rw_p rfl rfl (y_move rfl) ?_
    refine rw_p rfl rfl (y_assign rfl) ?_
    refine rw_done ?_
    refine gn_sq ?_
    refine HW_ret rfl ?_
    refine toR (fin hret rfl (.tmp rfl .nil) .one ?_)
    first | exact ⟨none, 0, 0, .gap, rfl, .nil _ _ _ _, hm.gapIn⟩ | exact ⟨p_z, cap_z, g_z, b_z, rfl, ha_z.cut0, hm⟩

theorem c_of (c : Pl.Cm) (p : Option Addr) (cap : Nat) (w0 : World) : C Try.prog 50 [.agg ⟨cmV c p c.bs.length cap⟩] w0 fun v w' => v = .agg ⟨[.int .i64 c.to, .int .i64 (Pl.clen c)]⟩ ∧ Ext No w0 w' := by
  refine C_of Try.func50 rfl rfl rfl fun κ hret hnorm => ?_
  have hm := Mem.start w0
  refine HW_seq rfl ?_
  refine HW_text (.act 0 (.act 1 .done)) (by kernel_rfl) ?_
  refine a_box rfl rfl rfl rfl hm trivial fun m1 w hg_m1 hm hh => ?_
  refine a_alloc rfl rfl z87 hm trivial fun m2 w hg_m2 hm hh => ?_
  refine rw_done ?_
  refine gn_sq ?_
  refine HW_seq rfl ?_
  refine HW_text (.pure 0 (.pure 1 (.pure 2 (.pure 3 .done)))) (by kernel_rfl) ?_
  refine rw_p rfl rfl (y_fieldAddr rfl fo34_4) ?_
  refine rw_p rfl rfl (y_load rfl sc32 (hm.nt 1 rfl) rfl) ?_
  refine rw_p rfl rfl (y_len rfl rfl sl32) ?_
  refine rw_p rfl rfl (y_assign rfl) ?_
  refine rw_done ?_
  refine gn_sq ?_
  refine HW_seq rfl ?_
  refine HW_seq rfl ?_
  refine HW_text (.pure 0 (.pure 1 (.pure 2 .done))) (by kernel_rfl) ?_
  refine rw_p rfl rfl (y_fieldAddr rfl fo34_0) ?_
  refine rw_p rfl rfl (y_load rfl sc3 (hm.nt 1 rfl) rfl) ?_
  refine rw_p rfl rfl (y_eq rfl rfl) ?_
  refine rw_done ?_
  refine gn_sq ?_
  refine HW_cond rfl rfl (fun hc0 => ?_) (fun hc0 => ?_)
  ·
    simp only [Bool.and_eq_true, Bool.or_eq_true, Bool.and_eq_false_iff, Bool.or_eq_false_iff, Bool.not_eq_true', Bool.not_eq_false', decide_eq_true_eq, decide_eq_false_iff_not] at hc0
    refine HW_text (.pure 0 (.pure 1 (.pure 2 .done))) (by kernel_rfl) ?_
    refine rw_p rfl rfl (y_fieldAddr rfl fo34_3) ?_
    refine rw_p rfl rfl (y_load rfl sc3 (hm.nt 1 rfl) rfl) ?_
    refine rw_p rfl rfl (y_assign rfl) ?_
    refine rw_done ?_
    refine gn_sq ?_
    refine HW_seq rfl ?_
    refine HW_text (.pure 0 (.pure 1 (.pure 2 (.pure 3 (.pure 4 (.act 5 .done)))))) (by kernel_rfl) ?_
    refine rw_p rfl rfl (y_fieldAddr rfl fo34_1) ?_
    refine rw_p rfl rfl (y_load rfl sc3 (hm.nt 1 rfl) rfl) ?_
    refine rw_p rfl rfl (y_move rfl) ?_
    refine rw_p rfl rfl (y_build (cs := [_, _]) z67 ft67 rfl rfl rfl rfl rfl) ?_
    refine rw_p rfl rfl (y_build (cs := [_, _]) z87 ft87 rfl rfl rfl rfl rfl) ?_
    refine a_store rfl rfl rfl rfl sz87 rfl hm 0 rfl rfl fun w hm => ?_
    refine rw_done ?_
    refine gn_sq ?_
    refine HW_ret rfl ?_
    refine toR (fin hret rfl (.cell rfl (run_loadVar_a (vs := [_, _]) ag87 (hm.get (k := 0) rfl) rfl) .nil) .one ?_)
    exact ⟨by simp [Pl.clen, hc0], hm.to⟩
  ·
    simp only [Bool.and_eq_true, Bool.or_eq_true, Bool.and_eq_false_iff, Bool.or_eq_false_iff, Bool.not_eq_true', Bool.not_eq_false', decide_eq_true_eq, decide_eq_false_iff_not] at hc0
    refine HW_skip rfl ?_
    refine gn_sq ?_
    refine HW_seq rfl ?_
    refine HW_text (.pure 0 (.pure 1 (.pure 2 (.pure 3 (.pure 4 (.act 5 .done)))))) (by kernel_rfl) ?_
    refine rw_p rfl rfl (y_fieldAddr rfl fo34_1) ?_
    refine rw_p rfl rfl (y_load rfl sc3 (hm.nt 1 rfl) rfl) ?_
    refine rw_p rfl rfl (y_move rfl) ?_
    refine rw_p rfl rfl (y_build (cs := [_, _]) z67 ft67 rfl rfl rfl rfl rfl) ?_
    refine rw_p rfl rfl (y_build (cs := [_, _]) z87 ft87 rfl rfl rfl rfl rfl) ?_
    refine a_store rfl rfl rfl rfl sz87 rfl hm 0 rfl rfl fun w hm => ?_
    refine rw_done ?_
    refine gn_sq ?_
    refine HW_ret rfl ?_
    refine toR (fin hret rfl (.cell rfl (run_loadVar_a (vs := [_, _]) ag87 (hm.get (k := 0) rfl) rfl) .nil) .one ?_)
    exact ⟨by simp [Pl.clen, hc0], hm.to⟩

theorem c_target (c : Pl.Cm) (p : Option Addr) (cap : Nat) (w0 : World) : C Try.prog 30 [.agg ⟨cmV c p c.bs.length cap⟩] w0 fun v w' => v = .agg ⟨[.int .i64 c.to, .int .i64 (Pl.clen c)]⟩ ∧ Ext No w0 w' := by
  refine C_of Try.func30 rfl rfl rfl fun κ hret hnorm => ?_
  have hm := Mem.start w0
  refine HW_seq rfl ?_
  refine HW_text (.act 0 (.act 1 .done)) (by kernel_rfl) ?_
  refine a_box rfl rfl rfl rfl hm trivial fun m1 w hg_m1 hm hh => ?_
  refine a_alloc rfl rfl z67 hm trivial fun m2 w hg_m2 hm hh => ?_
  refine rw_done ?_
  refine gn_sq ?_
  refine HW_seq rfl ?_
  refine HW_text (.pure 0 (.act 1 (.pure 2 (.act 3 .done)))) (by kernel_rfl) ?_
  refine rw_p rfl rfl (y_loadA (s := 5) (vs := [_, _, _, _, _]) rfl ag34 (hm.nt 1 rfl) rfl) ?_
  refine a_call rfl rfl rfl go50 (c_of _ _ _ _) fun v w hR => ?_
  obtain ⟨rfl, hE⟩ := hR
  refine ⟨trivial, ?_⟩
  replace hm := hm.ext hE
  refine rw_p rfl rfl (y_fieldV rfl fv87_0 rfl) ?_
  refine a_store rfl rfl rfl rfl sz67 rfl hm 0 rfl rfl fun w hm => ?_
  refine rw_done ?_
  refine gn_sq ?_
  refine HW_ret rfl ?_
  refine toR (fin hret rfl (.cell rfl (run_loadVar_a (vs := [_, _]) ag67 (hm.get (k := 0) rfl) rfl) .nil) .one ?_)
  exact ⟨rfl, hm.to⟩

theorem c_source (c : Pl.Cm) (p : Option Addr) (cap : Nat) (w0 : World) : C Try.prog 41 [.agg ⟨cmV c p c.bs.length cap⟩] w0 fun v w' => v = .tuple ⟨[.agg ⟨encE (Pl.csrc c)⟩, .bool (decide (c.k = 1))]⟩ ∧ Ext No w0 w' := by
  refine C_of Try.func41 rfl rfl rfl fun κ hret hnorm => ?_
  have hm := Mem.start w0
  refine HW_seq rfl ?_
  refine HW_text (.act 0 (.act 1 (.pure 2 .done))) (by kernel_rfl) ?_
  refine a_box rfl rfl rfl rfl hm trivial fun m1 w hg_m1 hm hh => ?_
  refine a_alloc rfl rfl z67 hm trivial fun m2 w hg_m2 hm hh => ?_
  refine rw_p rfl rfl (y_assign rfl) ?_
  refine rw_done ?_
  refine gn_sq ?_
  refine HW_seq rfl ?_
  refine HW_seq rfl ?_
  refine HW_text (.pure 0 (.pure 1 (.pure 2 .done))) (by kernel_rfl) ?_
  refine rw_p rfl rfl (y_fieldAddr rfl fo34_0) ?_
  refine rw_p rfl rfl (y_load rfl sc3 (hm.nt 1 rfl) rfl) ?_
  refine rw_p rfl rfl (y_ne rfl rfl) ?_
  refine rw_done ?_
  refine gn_sq ?_
  refine HW_cond rfl rfl (fun hc0 => ?_) (fun hc0 => ?_)
  ·
    simp only [Bool.and_eq_true, Bool.or_eq_true, Bool.and_eq_false_iff, Bool.or_eq_false_iff, Bool.not_eq_true', Bool.not_eq_false', decide_eq_true_eq, decide_eq_false_iff_not] at hc0
    refine HW_seq rfl ?_
    refine HW_text (.pure 0 (.act 1 (.pure 2 .done))) (by kernel_rfl) ?_
    refine rw_p rfl rfl (y_build (cs := [_, _]) z67 ft67 rfl rfl rfl rfl rfl) ?_
    refine a_store rfl rfl rfl rfl sz67 rfl hm 0 rfl rfl fun w hm => ?_
    refine rw_p rfl rfl (y_assign rfl) ?_
    refine rw_done ?_
    refine gn_sq ?_
    refine HW_ret rfl ?_
    refine gr_sq ?_
    refine toR (fin hret rfl (.cell rfl (run_loadVar_a (vs := [_, _]) ag67 (hm.get (k := 0) rfl) rfl) (.tmp rfl .nil)) .more ?_)
    exact ⟨by clear hret hnorm hm; by_cases hk : c.k = 1 <;> simp_all [Pl.csrc, encE], hm.to⟩
  ·
    simp only [Bool.and_eq_true, Bool.or_eq_true, Bool.and_eq_false_iff, Bool.or_eq_false_iff, Bool.not_eq_true', Bool.not_eq_false', decide_eq_true_eq, decide_eq_false_iff_not] at hc0
    refine HW_skip rfl ?_
    refine gn_sq ?_
    refine HW_seq rfl ?_
    refine HW_text (.pure 0 (.pure 1 (.pure 2 (.pure 3 (.pure 4 (.act 5 (.pure 6 .done))))))) (by kernel_rfl) ?_
    refine rw_p rfl rfl (y_fieldAddr rfl fo34_2) ?_
    refine rw_p rfl rfl (y_load rfl sc3 (hm.nt 1 rfl) rfl) ?_
    refine rw_p rfl rfl (y_fieldAddr rfl fo34_3) ?_
    refine rw_p rfl rfl (y_load rfl sc3 (hm.nt 1 rfl) rfl) ?_
    refine rw_p rfl rfl (y_build (cs := [_, _]) z67 ft67 rfl rfl rfl rfl rfl) ?_
    refine a_store rfl rfl rfl rfl sz67 rfl hm 0 rfl rfl fun w hm => ?_
    refine rw_p rfl rfl (y_assign rfl) ?_
    refine rw_done ?_
    refine gn_sq ?_
    refine HW_ret rfl ?_
    refine toR (fin hret rfl (.cell rfl (run_loadVar_a (vs := [_, _]) ag67 (hm.get (k := 0) rfl) rfl) (.tmp rfl .nil)) .more ?_)
    exact ⟨by clear hret hnorm hm; by_cases hk : c.k = 1 <;> simp_all [Pl.csrc, encE], hm.to⟩

theorem c_copy (a b c : Int) (w0 : World) : C Try.prog 69 [.int .i64 a, .int .i64 b, .int .i64 c] w0 fun v w' => v = .agg ⟨cmV ⟨1, a, b, c, []⟩ none 0 0⟩ ∧ Ext No w0 w' := by
  refine C_of Try.func69 rfl rfl rfl fun κ hret hnorm => ?_
  have hm := Mem.start w0
  refine HW_seq rfl ?_
  refine HW_text (.act 0 .done) (by kernel_rfl) ?_
  refine a_alloc rfl rfl z34 hm trivial fun m1 w hg_m1 hm hh => ?_
  refine rw_done ?_
  refine gn_sq ?_
  refine HW_seq rfl ?_
  refine HW_text (.pure 0 (.pure 1 (.pure 2 (.pure 3 (.act 4 .done))))) (by kernel_rfl) ?_
  refine rw_p rfl rfl (y_move rfl) ?_
  refine rw_p rfl rfl (y_move rfl) ?_
  refine rw_p rfl rfl (y_move rfl) ?_
  refine rw_p rfl rfl (y_build (cs := [_, _, _, _, _]) z34 ft34 rfl rfl rfl rfl rfl) ?_
  refine a_store rfl rfl rfl rfl sz34 rfl hm 0 rfl rfl fun w hm => ?_
  refine rw_done ?_
  refine gn_sq ?_
  refine HW_ret rfl ?_
  refine toR (fin hret rfl (.cell rfl (run_loadVar_a (vs := [_, _, _, _, _]) ag34 (hm.get (k := 0) rfl) rfl) .nil) .one ?_)
  exact ⟨rfl, hm.to⟩

theorem r4_len (c : Pl.Cm) (p : Option Addr) (cap : Nat) (w0 : World) : C Try.prog 40 [.agg ⟨cmV c p c.bs.length cap⟩] w0 fun v w' => v = .int .i64 (Pl.clen c) ∧ Ext No w0 w' := by
  refine C_of Try.func40 rfl rfl rfl fun κ hret hnorm => ?_
  have hm := Mem.start w0
  refine HW_seq rfl ?_
  refine HW_text (.act 0 (.pure 1 .done)) (by kernel_rfl) ?_
  refine a_box rfl rfl rfl rfl hm trivial fun m1 w hg_m1 hm hh => ?_
  refine rw_p rfl rfl (y_assign rfl) ?_
  refine rw_done ?_
  refine gn_sq ?_
  refine HW_seq rfl ?_
  refine HW_seq rfl ?_
  refine HW_text (.pure 0 (.pure 1 (.pure 2 .done))) (by kernel_rfl) ?_
  refine rw_p rfl rfl (y_fieldAddr rfl fo34_0) ?_
  refine rw_p rfl rfl (y_load rfl sc3 (hm.nt 0 rfl) rfl) ?_
  refine rw_p rfl rfl (y_eq rfl rfl) ?_
  refine rw_done ?_
  refine gn_sq ?_
  refine HW_cond rfl rfl (fun hc0 => ?_) (fun hc0 => ?_)
  ·
    simp only [Bool.and_eq_true, Bool.or_eq_true, Bool.and_eq_false_iff, Bool.or_eq_false_iff, Bool.not_eq_true', Bool.not_eq_false', decide_eq_true_eq, decide_eq_false_iff_not] at hc0
    refine HW_seq rfl ?_
    refine HW_text (.pure 0 (.pure 1 (.pure 2 .done))) (by kernel_rfl) ?_
    refine rw_p rfl rfl (y_fieldAddr rfl fo34_3) ?_
    refine rw_p rfl rfl (y_load rfl sc3 (hm.nt 0 rfl) rfl) ?_
    refine rw_p rfl rfl (y_assign rfl) ?_
    refine rw_done ?_
    refine gn_sq ?_
    refine HW_ret rfl ?_
    refine gr_sq ?_
    refine toR (fin hret rfl (.tmp rfl .nil) .one ?_)
    exact ⟨by simp [Pl.clen, hc0], hm.to⟩
  ·
    simp only [Bool.and_eq_true, Bool.or_eq_true, Bool.and_eq_false_iff, Bool.or_eq_false_iff, Bool.not_eq_true', Bool.not_eq_false', decide_eq_true_eq, decide_eq_false_iff_not] at hc0
    refine HW_skip rfl ?_
    refine gn_sq ?_
    refine HW_seq rfl ?_
    refine HW_text (.pure 0 (.pure 1 (.pure 2 (.pure 3 .done)))) (by kernel_rfl) ?_
    refine rw_p rfl rfl (y_fieldAddr rfl fo34_4) ?_
    refine rw_p rfl rfl (y_load rfl sc32 (hm.nt 0 rfl) rfl) ?_
    refine rw_p rfl rfl (y_len rfl rfl sl32) ?_
    refine rw_p rfl rfl (y_assign rfl) ?_
    refine rw_done ?_
    refine gn_sq ?_
    refine HW_ret rfl ?_
    refine toR (fin hret rfl (.tmp rfl .nil) .one ?_)
    exact ⟨by simp [Pl.clen, hc0], hm.to⟩

theorem r4_target (c : Pl.Cm) (p : Option Addr) (cap : Nat) (w0 : World) : C Try.prog 34 [.agg ⟨cmV c p c.bs.length cap⟩] w0 fun v w' => v = .agg ⟨[.int .i64 c.to, .int .i64 (Pl.clen c)]⟩ ∧ Ext No w0 w' := by
  refine C_of Try.func34 rfl rfl rfl fun κ hret hnorm => ?_
  have hm := Mem.start w0
  refine HW_seq rfl ?_
  refine HW_text (.act 0 (.act 1 .done)) (by kernel_rfl) ?_
  refine a_box rfl rfl rfl rfl hm trivial fun m1 w hg_m1 hm hh => ?_
  refine a_alloc rfl rfl z67 hm trivial fun m2 w hg_m2 hm hh => ?_
  refine rw_done ?_
  refine gn_sq ?_
  refine HW_seq rfl ?_
  refine HW_draw (.pure 0 (.pure 1 (.pure 2 (.act 3 (.cut (.pure 4 (.act 5 .done))))))) No mix (by kernel_rfl) hm fun w hw hm0 hh => ?_
  have hm := hm0
  refine rw_p rfl rfl (y_fieldAddr rfl fo34_1) ?_
  refine rw_p rfl rfl (y_load rfl sc3 (hm0.nd 1 rfl id) rfl) ?_
  refine rw_p rfl rfl (y_loadA (s := 5) (vs := [_, _, _, _, _]) rfl ag34 (hm0.nd 1 rfl id) rfl) ?_
  refine a_call rfl rfl rfl go40 (r4_len _ _ _ _) fun v w hR => ?_
  obtain ⟨rfl, hE⟩ := hR
  refine ⟨hh.ext hE, ?_⟩
  replace hm := hm.ext hE
  replace hh := hh.ext hE
  refine a_cut ?_
  refine rw_p rfl rfl (y_build (cs := [_, _]) z67 ft67 rfl rfl rfl rfl rfl) ?_
  refine a_store rfl rfl rfl rfl sz67 rfl hm 0 rfl rfl fun w hm => ?_
  refine rw_done ?_
  refine gn_sq ?_
  refine HW_ret rfl ?_
  refine toR (fin hret rfl (.cell rfl (run_loadVar_a (vs := [_, _]) ag67 (hm.get (k := 0) rfl) rfl) .nil) .one ?_)
  exact ⟨rfl, hm.to⟩

theorem r4_source (c : Pl.Cm) (p : Option Addr) (cap : Nat) (w0 : World) : C Try.prog 48 [.agg ⟨cmV c p c.bs.length cap⟩] w0 fun v w' => v = .agg ⟨[.int .i64 c.fr, .int .i64 c.ln]⟩ ∧ Ext No w0 w' := by
  refine C_of Try.func48 rfl rfl rfl fun κ hret hnorm => ?_
  have hm := Mem.start w0
  refine HW_seq rfl ?_
  refine HW_text (.act 0 (.act 1 .done)) (by kernel_rfl) ?_
  refine a_box rfl rfl rfl rfl hm trivial fun m1 w hg_m1 hm hh => ?_
  refine a_alloc rfl rfl z67 hm trivial fun m2 w hg_m2 hm hh => ?_
  refine rw_done ?_
  refine gn_sq ?_
  refine HW_seq rfl ?_
  refine HW_text (.pure 0 (.pure 1 (.pure 2 (.pure 3 (.pure 4 (.act 5 .done)))))) (by kernel_rfl) ?_
  refine rw_p rfl rfl (y_fieldAddr rfl fo34_2) ?_
  refine rw_p rfl rfl (y_load rfl sc3 (hm.nt 1 rfl) rfl) ?_
  refine rw_p rfl rfl (y_fieldAddr rfl fo34_3) ?_
  refine rw_p rfl rfl (y_load rfl sc3 (hm.nt 1 rfl) rfl) ?_
  refine rw_p rfl rfl (y_build (cs := [_, _]) z67 ft67 rfl rfl rfl rfl rfl) ?_
  refine a_store rfl rfl rfl rfl sz67 rfl hm 0 rfl rfl fun w hm => ?_
  refine rw_done ?_
  refine gn_sq ?_
  refine HW_ret rfl ?_
  refine toR (fin hret rfl (.cell rfl (run_loadVar_a (vs := [_, _]) ag67 (hm.get (k := 0) rfl) rfl) .nil) .one ?_)
  exact ⟨rfl, hm.to⟩

set_option maxHeartbeats 400000 in
theorem r4_check (c : Pl.Cm) (p : Option Addr) (cap : Nat) (w0 : World) (hk : Pl.okCm c) (hl : c.bs.length ≤ 9223372036854775807) : C Try.prog 27 [.agg ⟨cmV c p c.bs.length cap⟩] w0 fun v w' => v = .int .i64 (Pl.ccheck c) ∧ Ext No w0 w' := by
  have hk1 := hk.1
  have hk2 := hk.2.1
  have hk3 := hk.2.2.1
  have hk4 := hk.2.2.2
  have hcl := Pl.clen_i64 hk hl
  refine C_of Try.func27 rfl rfl rfl fun κ hret hnorm => ?_
  have hm := Mem.start w0
  refine HW_seq rfl ?_
  refine HW_text (.act 0 (.pure 1 .done)) (by kernel_rfl) ?_
  refine a_box rfl rfl rfl rfl hm trivial fun m1 w hg_m1 hm hh => ?_
  refine rw_p rfl rfl (y_assign rfl) ?_
  refine rw_done ?_
  refine gn_sq ?_
  refine HW_seq rfl ?_
  refine HW_seq rfl ?_
  refine HW_text (.pure 0 (.pure 1 (.pure 2 (.pure 3 (.pure 4 (.pure 5 (.pure 6 (.pure 7 .done)))))))) (by kernel_rfl) ?_
  refine rw_p rfl rfl (y_fieldAddr rfl fo34_0) ?_
  refine rw_p rfl rfl (y_load rfl sc3 (hm.nt 0 rfl) rfl) ?_
  refine rw_p rfl rfl (y_ne rfl rfl) ?_
  refine rw_p rfl rfl (y_move rfl) ?_
  refine rw_g rfl rfl rfl (fun hc => (y_fieldAddr rfl fo34_0)) ?_
  refine rw_g rfl rfl rfl (fun hc => (y_load (gx hc rfl) sc3 (hm.nt 0 rfl) rfl)) ?_
  refine rw_g rfl rfl rfl (fun hc => (y_ne (gx hc rfl) rfl)) ?_
  refine rw_p rfl rfl (y_and rfl rfl rfl) ?_
  refine rw_done ?_
  refine gn_sq ?_
  refine HW_cond rfl rfl (fun hc0 => ?_) (fun hc0 => ?_)
  ·
    simp only [Bool.and_eq_true, Bool.or_eq_true, Bool.and_eq_false_iff, Bool.or_eq_false_iff, Bool.not_eq_true', Bool.not_eq_false', decide_eq_true_eq, decide_eq_false_iff_not] at hc0
    refine HW_seq rfl ?_
    refine HW_text (.pure 0 .done) (by kernel_rfl) ?_
    refine rw_p rfl rfl (y_assign rfl) ?_
    refine rw_done ?_
    refine gn_sq ?_
    refine HW_ret rfl ?_
    refine gr_sq ?_
    refine toR (fin hret rfl (.tmp rfl .nil) .one ?_)
    exact ⟨congrArg (Value.int .i64) (by clear hret hnorm hm; grind [Pl.ccheck]), hm.to⟩
  ·
    simp only [Bool.and_eq_true, Bool.or_eq_true, Bool.and_eq_false_iff, Bool.or_eq_false_iff, Bool.not_eq_true', Bool.not_eq_false', decide_eq_true_eq, decide_eq_false_iff_not] at hc0
    refine HW_skip rfl ?_
    refine gn_sq ?_
    refine HW_seq rfl ?_
    refine HW_seq rfl ?_
    refine HW_text (.pure 0 (.act 1 (.pure 2 .done))) (by kernel_rfl) ?_
    refine rw_p rfl rfl (y_loadA (s := 5) (vs := [_, _, _, _, _]) rfl ag34 (hm.nt 0 rfl) rfl) ?_
    refine a_call rfl rfl rfl go40 (r4_len _ _ _ _) fun v w hR => ?_
    obtain ⟨rfl, hE⟩ := hR
    refine ⟨trivial, ?_⟩
    replace hm := hm.ext hE
    refine rw_p rfl rfl (y_eq rfl rfl) ?_
    refine rw_done ?_
    refine gn_sq ?_
    refine HW_cond rfl rfl (fun hc1 => ?_) (fun hc1 => ?_)
    ·
      simp only [Bool.and_eq_true, Bool.or_eq_true, Bool.and_eq_false_iff, Bool.or_eq_false_iff, Bool.not_eq_true', Bool.not_eq_false', decide_eq_true_eq, decide_eq_false_iff_not] at hc1
      refine HW_seq rfl ?_
      refine HW_text (.pure 0 .done) (by kernel_rfl) ?_
      refine rw_p rfl rfl (y_assign rfl) ?_
      refine rw_done ?_
      refine gn_sq ?_
      refine HW_ret rfl ?_
      refine gr_sq ?_
      refine toR (fin hret rfl (.tmp rfl .nil) .one ?_)
      exact ⟨congrArg (Value.int .i64) (by clear hret hnorm hm; grind [Pl.ccheck]), hm.to⟩
    ·
      simp only [Bool.and_eq_true, Bool.or_eq_true, Bool.and_eq_false_iff, Bool.or_eq_false_iff, Bool.not_eq_true', Bool.not_eq_false', decide_eq_true_eq, decide_eq_false_iff_not] at hc1
      refine HW_skip rfl ?_
      refine gn_sq ?_
      refine HW_seq rfl ?_
      refine HW_seq rfl ?_
      refine HW_text (.pure 0 (.act 1 (.act 2 (.pure 3 .done)))) (by kernel_rfl) ?_
      refine rw_p rfl rfl (y_loadA (s := 5) (vs := [_, _, _, _, _]) rfl ag34 (hm.nt 0 rfl) rfl) ?_
      refine a_call rfl rfl rfl go34 (r4_target _ _ _ _) fun v w hR => ?_
      obtain ⟨rfl, hE⟩ := hR
      refine ⟨trivial, ?_⟩
      replace hm := hm.ext hE
      refine a_call rfl rfl rfl go49 (r1_valid _ _ _ (by omega) (by omega)) fun v w hR => ?_
      obtain ⟨rfl, hE⟩ := hR
      refine ⟨trivial, ?_⟩
      replace hm := hm.ext hE
      refine rw_p rfl rfl (y_not rfl) ?_
      refine rw_done ?_
      refine gn_sq ?_
      refine HW_cond rfl rfl (fun hc2 => ?_) (fun hc2 => ?_)
      ·
        simp only [Bool.and_eq_true, Bool.or_eq_true, Bool.and_eq_false_iff, Bool.or_eq_false_iff, Bool.not_eq_true', Bool.not_eq_false', decide_eq_true_eq, decide_eq_false_iff_not] at hc2
        refine HW_seq rfl ?_
        refine HW_text (.pure 0 .done) (by kernel_rfl) ?_
        refine rw_p rfl rfl (y_assign rfl) ?_
        refine rw_done ?_
        refine gn_sq ?_
        refine HW_ret rfl ?_
        refine gr_sq ?_
        refine toR (fin hret rfl (.tmp rfl .nil) .one ?_)
        exact ⟨congrArg (Value.int .i64) (by clear hret hnorm hm; grind [Pl.ccheck]), hm.to⟩
      ·
        simp only [Bool.and_eq_true, Bool.or_eq_true, Bool.and_eq_false_iff, Bool.or_eq_false_iff, Bool.not_eq_true', Bool.not_eq_false', decide_eq_true_eq, decide_eq_false_iff_not] at hc2
        refine HW_skip rfl ?_
        refine gn_sq ?_
        refine HW_seq rfl ?_
        refine HW_seq rfl ?_
        refine HW_text (.pure 0 (.pure 1 (.pure 2 (.pure 3 (.pure 4 (.pure 5 (.pure 6 (.pure 7 (.pure 8 (.pure 9 (.act 10 (.act 11 (.pure 12 (.pure 13 (.pure 14 .done))))))))))))))) (by kernel_rfl) ?_
        refine rw_p rfl rfl (y_fieldAddr rfl fo34_0) ?_
        refine rw_p rfl rfl (y_load rfl sc3 (hm.nt 0 rfl) rfl) ?_
        refine rw_p rfl rfl (y_eq rfl rfl) ?_
        refine rw_p rfl rfl (y_move rfl) ?_
        refine rw_g rfl rfl rfl (fun hc => (y_fieldAddr rfl fo34_4)) ?_
        refine rw_g rfl rfl rfl (fun hc => (y_load (gx hc rfl) sc32 (hm.nt 0 rfl) rfl)) ?_
        refine rw_g rfl rfl rfl (fun hc => (y_len (gx hc rfl) rfl sl32)) ?_
        refine rw_g rfl rfl rfl (fun hc => (y_gt (gx hc rfl) rfl)) ?_
        refine rw_g rfl rfl rfl (fun hc => (y_move (gx hc rfl))) ?_
        refine rw_gg rfl rfl rfl (fun hc => (y_loadA (s := 5) (vs := [_, _, _, _, _]) rfl ag34 (hm.nt 0 rfl) rfl)) ?_
        refine a_callGG rfl rfl rfl (fun hc => (evs_c (gx hc rfl) evs_n)) go48 (fun hc => (r4_source _ _ _ _)) trivial fun w hE hh => ?_
        replace hm := hm.ext hE
        refine a_callGG rfl rfl rfl (fun hc => (evs_c (gx hc rfl) evs_n)) go49 (fun hc => (r1_valid _ _ _ (by omega) (by omega))) trivial fun w hE hh => ?_
        replace hm := hm.ext hE
        refine rw_gg rfl rfl rfl (fun hc => (y_not (gx hc rfl))) ?_
        refine rw_g rfl rfl rfl (fun hc => (y_or (gx hc rfl) rfl (gvn hc rfl))) ?_
        refine rw_p rfl rfl (y_and rfl rfl rfl) ?_
        refine rw_done ?_
        refine gn_sq ?_
        refine HW_cond rfl rfl (fun hc3 => ?_) (fun hc3 => ?_)
        ·
          simp only [Bool.and_eq_true, Bool.or_eq_true, Bool.and_eq_false_iff, Bool.or_eq_false_iff, Bool.not_eq_true', Bool.not_eq_false', decide_eq_true_eq, decide_eq_false_iff_not] at hc3
          refine HW_seq rfl ?_
          refine HW_text (.pure 0 .done) (by kernel_rfl) ?_
          refine rw_p rfl rfl (y_assign rfl) ?_
          refine rw_done ?_
          refine gn_sq ?_
          refine HW_ret rfl ?_
          refine gr_sq ?_
          refine toR (fin hret rfl (.tmp rfl .nil) .one ?_)
          exact ⟨congrArg (Value.int .i64) (by clear hret hnorm hm; grind [Pl.ccheck]), hm.to⟩
        ·
          simp only [Bool.and_eq_true, Bool.or_eq_true, Bool.and_eq_false_iff, Bool.or_eq_false_iff, Bool.not_eq_true', Bool.not_eq_false', decide_eq_true_eq, decide_eq_false_iff_not] at hc3
          refine HW_skip rfl ?_
          refine gn_sq ?_
          refine HW_seq rfl ?_
          refine HW_seq rfl ?_
          refine HW_text (.pure 0 (.pure 1 (.pure 2 (.pure 3 (.pure 4 (.pure 5 (.pure 6 (.pure 7 (.pure 8 (.pure 9 (.pure 10 (.pure 11 (.pure 12 .done))))))))))))) (by kernel_rfl) ?_
          refine rw_p rfl rfl (y_fieldAddr rfl fo34_0) ?_
          refine rw_p rfl rfl (y_load rfl sc3 (hm.nt 0 rfl) rfl) ?_
          refine rw_p rfl rfl (y_eq rfl rfl) ?_
          refine rw_p rfl rfl (y_move rfl) ?_
          refine rw_g rfl rfl rfl (fun hc => (y_fieldAddr rfl fo34_2)) ?_
          refine rw_g rfl rfl rfl (fun hc => (y_load (gx hc rfl) sc3 (hm.nt 0 rfl) rfl)) ?_
          refine rw_g rfl rfl rfl (fun hc => (y_ne (gx hc rfl) rfl)) ?_
          refine rw_g rfl rfl rfl (fun hc => (y_move (gx hc rfl))) ?_
          refine rw_gg rfl rfl rfl (fun hc => (y_fieldAddr rfl fo34_3)) ?_
          refine rw_gg rfl rfl rfl (fun hc => (y_load (gx hc rfl) sc3 (hm.nt 0 rfl) rfl)) ?_
          refine rw_gg rfl rfl rfl (fun hc => (y_ne (gx hc rfl) rfl)) ?_
          refine rw_g rfl rfl rfl (fun hc => (y_or (gx hc rfl) rfl (gvn hc rfl))) ?_
          refine rw_p rfl rfl (y_and rfl rfl rfl) ?_
          refine rw_done ?_
          refine gn_sq ?_
          refine HW_cond rfl rfl (fun hc4 => ?_) (fun hc4 => ?_)
          ·
            simp only [Bool.and_eq_true, Bool.or_eq_true, Bool.and_eq_false_iff, Bool.or_eq_false_iff, Bool.not_eq_true', Bool.not_eq_false', decide_eq_true_eq, decide_eq_false_iff_not] at hc4
            refine HW_seq rfl ?_
            refine HW_text (.pure 0 .done) (by kernel_rfl) ?_
            refine rw_p rfl rfl (y_assign rfl) ?_
            refine rw_done ?_
            refine gn_sq ?_
            refine HW_ret rfl ?_
            refine gr_sq ?_
            refine toR (fin hret rfl (.tmp rfl .nil) .one ?_)
            exact ⟨congrArg (Value.int .i64) (by clear hret hnorm hm; grind [Pl.ccheck]), hm.to⟩
          ·
            simp only [Bool.and_eq_true, Bool.or_eq_true, Bool.and_eq_false_iff, Bool.or_eq_false_iff, Bool.not_eq_true', Bool.not_eq_false', decide_eq_true_eq, decide_eq_false_iff_not] at hc4
            refine HW_skip rfl ?_
            refine gn_sq ?_
            refine HW_seq rfl ?_
            refine HW_text (.pure 0 .done) (by kernel_rfl) ?_
            refine rw_p rfl rfl (y_assign rfl) ?_
            refine rw_done ?_
            refine gn_sq ?_
            refine HW_ret rfl ?_
            refine toR (fin hret rfl (.tmp rfl .nil) .one ?_)
            exact ⟨congrArg (Value.int .i64) (by clear hret hnorm hm; grind [Pl.ccheck]), hm.to⟩

theorem r4_same (a b : Pl.Cm) (p q : Option Addr) (c1 c2 : Nat) (w0 : World) (hp : Rd w0 p (a.bs.flatMap encB)) (hq : Rd w0 q (b.bs.flatMap encB)) : C Try.prog 29 [.agg ⟨cmV a p a.bs.length c1⟩, .agg ⟨cmV b q b.bs.length c2⟩] w0 fun v w' => v = .bool (Pl.csame a b) ∧ Ext No w0 w' := by
  refine C_of Try.func29 rfl rfl rfl fun κ hret hnorm => ?_
  have hm := Mem.start w0
  refine HW_seq rfl ?_
  refine HW_text (.act 0 (.act 1 (.pure 2 .done))) (by kernel_rfl) ?_
  refine a_box rfl rfl rfl rfl hm trivial fun m1 w hg_m1 hm hh => ?_
  refine a_box rfl rfl rfl rfl hm trivial fun m2 w hg_m2 hm hh => ?_
  refine rw_p rfl rfl (y_assign rfl) ?_
  refine rw_done ?_
  refine gn_sq ?_
  refine HW_seq rfl ?_
  refine HW_text (.pure 0 (.pure 1 (.pure 2 (.pure 3 (.pure 4 (.pure 5 (.pure 6 (.pure 7 (.pure 8 (.pure 9 (.pure 10 (.pure 11 (.pure 12 (.pure 13 (.pure 14 (.pure 15 (.pure 16 (.pure 17 (.pure 18 (.pure 19 (.pure 20 (.pure 21 (.pure 22 (.pure 23 (.pure 24 (.pure 25 (.pure 26 (.pure 27 (.pure 28 (.pure 29 (.pure 30 (.pure 31 (.pure 32 (.pure 33 (.pure 34 (.pure 35 .done)))))))))))))))))))))))))))))))))))) (by kernel_rfl) ?_
  refine rw_p rfl rfl (y_fieldAddr rfl fo34_0) ?_
  refine rw_p rfl rfl (y_load rfl sc3 (hm.nt 1 rfl) rfl) ?_
  refine rw_p rfl rfl (y_fieldAddr rfl fo34_0) ?_
  refine rw_p rfl rfl (y_load rfl sc3 (hm.nt 0 rfl) rfl) ?_
  refine rw_p rfl rfl (y_eq rfl rfl) ?_
  refine rw_p rfl rfl (y_move rfl) ?_
  refine rw_g rfl rfl rfl (fun hc => (y_fieldAddr rfl fo34_1)) ?_
  refine rw_g rfl rfl rfl (fun hc => (y_load (gx hc rfl) sc3 (hm.nt 1 rfl) rfl)) ?_
  refine rw_g rfl rfl rfl (fun hc => (y_fieldAddr rfl fo34_1)) ?_
  refine rw_g rfl rfl rfl (fun hc => (y_load (gx hc rfl) sc3 (hm.nt 0 rfl) rfl)) ?_
  refine rw_g rfl rfl rfl (fun hc => (y_eq (gx hc rfl) (gx hc rfl))) ?_
  refine rw_p rfl rfl (y_and rfl rfl rfl) ?_
  refine rw_p rfl rfl (y_move rfl) ?_
  refine rw_g rfl rfl rfl (fun hc => (y_fieldAddr rfl fo34_2)) ?_
  refine rw_g rfl rfl rfl (fun hc => (y_load (gx hc rfl) sc3 (hm.nt 1 rfl) rfl)) ?_
  refine rw_g rfl rfl rfl (fun hc => (y_fieldAddr rfl fo34_2)) ?_
  refine rw_g rfl rfl rfl (fun hc => (y_load (gx hc rfl) sc3 (hm.nt 0 rfl) rfl)) ?_
  refine rw_g rfl rfl rfl (fun hc => (y_eq (gx hc rfl) (gx hc rfl))) ?_
  refine rw_p rfl rfl (y_and rfl rfl rfl) ?_
  refine rw_p rfl rfl (y_move rfl) ?_
  refine rw_g rfl rfl rfl (fun hc => (y_fieldAddr rfl fo34_3)) ?_
  refine rw_g rfl rfl rfl (fun hc => (y_load (gx hc rfl) sc3 (hm.nt 1 rfl) rfl)) ?_
  refine rw_g rfl rfl rfl (fun hc => (y_fieldAddr rfl fo34_3)) ?_
  refine rw_g rfl rfl rfl (fun hc => (y_load (gx hc rfl) sc3 (hm.nt 0 rfl) rfl)) ?_
  refine rw_g rfl rfl rfl (fun hc => (y_eq (gx hc rfl) (gx hc rfl))) ?_
  refine rw_p rfl rfl (y_and rfl rfl rfl) ?_
  refine rw_p rfl rfl (y_move rfl) ?_
  refine rw_g rfl rfl rfl (fun hc => (y_fieldAddr rfl fo34_4)) ?_
  refine rw_g rfl rfl rfl (fun hc => (y_load (gx hc rfl) sc32 (hm.nt 1 rfl) rfl)) ?_
  refine rw_g rfl rfl rfl (fun hc => (y_cvs (gx hc rfl) bt32_9 ((hp.ext0 hm.to).nt) rfl)) ?_
  refine rw_g rfl rfl rfl (fun hc => (y_fieldAddr rfl fo34_4)) ?_
  refine rw_g rfl rfl rfl (fun hc => (y_load (gx hc rfl) sc32 (hm.nt 0 rfl) rfl)) ?_
  refine rw_g rfl rfl rfl (fun hc => (y_cvs (gx hc rfl) bt32_9 ((hq.ext0 hm.to).nt) rfl)) ?_
  refine rw_g rfl rfl rfl (fun hc => (y_seqB (gx hc rfl) (gx hc rfl))) ?_
  refine rw_p rfl rfl (y_and rfl rfl rfl) ?_
  refine rw_p rfl rfl (y_assign rfl) ?_
  refine rw_done ?_
  refine gn_sq ?_
  refine HW_ret rfl ?_
  refine toR (fin hret rfl (.tmp rfl .nil) .one ?_)
  exact ⟨congrArg Value.bool (by simp only [Pl.csame]), hm.to⟩

end Go.Proofs.Ytpandemmaoeioaa
