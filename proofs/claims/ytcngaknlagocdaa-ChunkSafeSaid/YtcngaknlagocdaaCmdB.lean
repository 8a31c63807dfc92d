/- Contracts of functions of the program: what each returns. Conditions: the hypotheses of each theorem. -/
import Derived.Test.YtcngaknlagocdaaByt
set_option linter.unusedVariables false
set_option linter.unusedSimpArgs false
namespace Go.Proofs.Ytcngaknlagocdaa
open Go Go.Cx

theorem it3 : intO Try.prog 3 = some .i64 := by kernel_rfl
theorem ag87 : aggS Try.prog 87 = some 2 := by kernel_rfl
theorem fo24_0 : fldO Try.prog 24 0 = some 0 := by kernel_rfl
theorem fo24_1 : fldO Try.prog 24 1 = some 1 := by kernel_rfl
theorem fo24_3 : fldO Try.prog 24 3 = some 3 := by kernel_rfl
theorem fo24_4 : fldO Try.prog 24 4 = some 4 := by kernel_rfl
theorem ft87 : fldT Try.prog 87 = some [(0, 2)] := by kernel_rfl
theorem sc22 : scal Try.prog 22 = true := by kernel_rfl
theorem sz87 : szO Try.prog 87 = some 2 := by kernel_rfl
theorem z87 : zer Try.prog 87 = some [.int .i64 0, .int .i64 0] := by kernel_rfl
theorem ag24 : aggS Try.prog 24 = some 5 := by kernel_rfl
theorem fv87_0 : fldV Try.prog 87 0 = some (0, 2, true) := by kernel_rfl
theorem go58 : isGo Try.prog 58 = true := by kernel_rfl
theorem fo24_2 : fldO Try.prog 24 2 = some 2 := by kernel_rfl
theorem ft24 : fldT Try.prog 24 = some [(0, 1), (1, 1), (2, 1), (3, 1), (4, 1)] := by kernel_rfl
theorem sz24 : szO Try.prog 24 = some 5 := by kernel_rfl
theorem z24 : zer Try.prog 24 = some [.int .i64 0, .int .i64 0, .int .i64 0, .int .i64 0, .slice none 0 0] := by kernel_rfl
theorem go18 : isGo Try.prog 18 = true := by kernel_rfl
theorem go39 : isGo Try.prog 39 = true := by kernel_rfl
theorem go40 : isGo Try.prog 40 = true := by kernel_rfl
theorem go41 : isGo Try.prog 41 = true := by kernel_rfl
theorem bt22_9 : bts Try.prog 22 9 = true := by kernel_rfl
theorem go77 : isGo Try.prog 77 = true := by kernel_rfl
theorem sl105 : slcO Try.prog 105 = some (22, 1, 24) := by kernel_rfl
theorem go76 : isGo Try.prog 76 = true := by kernel_rfl
theorem fo87_0 : fldO Try.prog 87 0 = some 0 := by kernel_rfl
theorem go52 : isGo Try.prog 52 = true := by kernel_rfl
theorem fo98_0 : fldO Try.prog 98 0 = some 0 := by kernel_rfl
theorem ft98 : fldT Try.prog 98 = some [(0, 2), (2, 5)] := by kernel_rfl
theorem go69 : isGo Try.prog 69 = true := by kernel_rfl
theorem go70 : isGo Try.prog 70 = true := by kernel_rfl
theorem go71 : isGo Try.prog 71 = true := by kernel_rfl
theorem sz98 : szO Try.prog 98 = some 7 := by kernel_rfl
theorem z22 : zer Try.prog 22 = some [.slice none 0 0] := by kernel_rfl
theorem z98 : zer Try.prog 98 = some [.int .i64 0, .int .i64 0, .int .i64 0, .int .i64 0, .int .i64 0, .int .i64 0, .slice none 0 0] := by kernel_rfl
theorem go36 : isGo Try.prog 36 = true := by kernel_rfl
theorem go51 : isGo Try.prog 51 = true := by kernel_rfl
theorem go59 : isGo Try.prog 59 = true := by kernel_rfl
theorem fv61_1 : fldV Try.prog 61 1 = some (1, 1, false) := by kernel_rfl
theorem go56 : isGo Try.prog 56 = true := by kernel_rfl

theorem grow_b0 (n : Nat) (w0 : World) (hn : n ≤ 140737488355328) : C Try.prog 77 [.slice none 0 0, .int .i64 n] w0 fun v w' => ∃ p cap g b, v = .slice p 0 cap ∧ Acc 5 1 p 0 cap [] g b ∧ Mem w0 w' No [(g, b)] := by
  refine C_of Try.func77 rfl rfl rfl fun κ hret hnorm => ?_
  have hm := Mem.start w0
  refine HW_seq rfl ?_
  refine HW_text (.pure 0 .done) (by kernel_rfl) ?_
  refine rw_p rfl rfl (y_assign rfl) ?_
  refine rw_done ?_
  refine gn_sq ?_
  refine HW_seq rfl ?_
  refine HW_seq rfl ?_
  refine HW_text (.pure 0 (.pure 1 .done)) (by kernel_rfl) ?_
  refine rw_p rfl rfl (y_move rfl) ?_
  refine rw_p rfl rfl (y_lt rfl rfl) ?_
  refine rw_done ?_
  refine gn_sq ?_
  refine HW_condF rfl rfl (decide_eq_false (by omega)) ?_
  refine HW_skip rfl ?_
  refine gn_sq ?_
  refine HW_seq rfl ?_
  refine HW_seq rfl ?_
  refine HW_text (.pure 0 (.pure 1 (.pure 2 (.pure 3 (.pure 4 (.pure 5 (.pure 6 (.pure 7 .done)))))))) (by kernel_rfl) ?_
  refine rw_p rfl rfl (y_move rfl) ?_
  refine rw_p rfl rfl (y_move rfl) ?_
  refine rw_p rfl rfl (y_cap rfl rfl sl22) ?_
  refine rw_p rfl rfl (y_move rfl) ?_
  refine rw_p rfl rfl (y_len rfl rfl sl22) ?_
  refine rw_p rfl rfl (y_sub rfl rfl (i64w (by omega) (by omega))) ?_
  refine rw_p rfl rfl (y_sub rfl rfl ((i64w (by simp <;> omega) (by simp <;> omega)).trans (by simp : (n : Int) - ((0 : Nat) - (0 : Nat)) = (n : Int)))) ?_
  refine rw_p rfl rfl (y_assign rfl) ?_
  refine rw_done ?_
  refine gn_sq ?_
  refine HW_seq rfl ?_
  refine HW_text (.pure 0 (.pure 1 .done)) (by kernel_rfl) ?_
  refine rw_p rfl rfl (y_move rfl) ?_
  refine rw_p rfl rfl (y_gt rfl rfl) ?_
  refine rw_done ?_
  refine gn_sq ?_
  refine HW_cond rfl rfl (fun hc1 => ?_) (fun hc1 => ?_)
  ·
    simp only [Bool.and_eq_true, Bool.or_eq_true, Bool.and_eq_false_iff, Bool.or_eq_false_iff, Bool.not_eq_true', Bool.not_eq_false', decide_eq_true_eq, decide_eq_false_iff_not] at hc1
    refine HW_text (.pure 0 (.pure 1 (.pure 2 (.pure 3 (.pure 4 (.act 5 (.pure 6 (.pure 7 (.pure 8 (.pure 9 .done)))))))))) (by kernel_rfl) ?_
    refine rw_p rfl rfl (y_move rfl) ?_
    refine rw_p rfl rfl (y_move rfl) ?_
    refine rw_p rfl rfl (y_cap rfl rfl sl22) ?_
    refine rw_p rfl rfl (y_v (y_slice (ln := 0) (hn := 0) rfl sl22 rfl ⟨_, rfl⟩ (Nat.le_refl _) (Nat.le_refl _) (fun h => absurd rfl h)) (show _ = Value.slice none 0 0 from rfl)) ?_
    replace hm := hm.gapIn
    have ha_z := Acc.nil 5 1 none 0
    refine rw_p rfl rfl (y_move rfl) ?_
    refine a_appendZ rfl rfl rfl rfl rfl rfl sl22 it3 z5 rfl rfl ha_z hm 0 rfl (by omega) (by omega) fun p_z cap_z g_z b_z w ha_z hm => ?_
    refine rw_p rfl rfl (y_move rfl) ?_
    refine rw_p rfl rfl (y_len rfl rfl sl22) ?_
    refine rw_p rfl rfl (y_v (y_slice (ln := 0) (hn := 0) rfl sl22 rfl ⟨_, rfl⟩ (Nat.le_refl _) (Nat.zero_le _) (fun h => ha_z.spot h)) (show _ = Value.slice p_z 0 cap_z by rw [slp_zero' ha_z.spot]; rfl)) ?_
    refine rw_p rfl rfl (y_assign rfl) ?_
    refine rw_done ?_
    refine gn_sq ?_
    refine HW_seq rfl ?_
    refine HW_text (.pure 0 (.pure 1 .done)) (by kernel_rfl) ?_
    refine rw_p rfl rfl (y_move rfl) ?_
    refine rw_p rfl rfl (y_assign rfl) ?_
    refine rw_done ?_
    refine gn_sq ?_
    refine HW_ret rfl ?_
    refine toR (fin hret rfl (.tmp rfl .nil) .one ?_)
    first | exact ⟨none, 0, 0, .gap, rfl, .nil _ _ _ _, hm.gapIn⟩ | exact ⟨p_z, cap_z, g_z, b_z, rfl, ha_z.cut0, hm⟩
  ·
    have hn0 : n = 0 := by simp at hc1; omega
    refine HW_skip rfl ?_
    refine gn_sq ?_
    refine HW_seq rfl ?_
    refine HW_text (.pure 0 (.pure 1 .done)) (by kernel_rfl) ?_
    refine rw_p rfl rfl (y_move rfl) ?_
    refine rw_p rfl rfl (y_assign rfl) ?_
    refine rw_done ?_
    refine gn_sq ?_
    refine HW_ret rfl ?_
    refine toR (fin hret rfl (.tmp rfl .nil) .one ?_)
    first | exact ⟨none, 0, 0, .gap, rfl, .nil _ _ _ _, hm.gapIn⟩ | exact ⟨p_z, cap_z, g_z, b_z, rfl, ha_z.cut0, hm⟩

theorem c_of (c : Pl.Cm) (p : Option Addr) (cap : Nat) (w0 : World) : C Try.prog 58 [.agg ⟨cmV c p c.bs.length cap⟩] w0 fun v w' => v = .agg ⟨[.int .i64 c.to, .int .i64 (Pl.clen c)]⟩ ∧ Ext No w0 w' := by
  refine C_of Try.func58 rfl rfl rfl fun κ hret hnorm => ?_
  have hm := Mem.start w0
  refine HW_seq rfl ?_
  refine HW_text (.act 0 (.act 1 .done)) (by kernel_rfl) ?_
  refine a_box rfl rfl rfl rfl hm trivial fun m1 w hg_m1 hm hh => ?_
  refine a_alloc rfl rfl z87 hm trivial fun m2 w hg_m2 hm hh => ?_
  refine rw_done ?_
  refine gn_sq ?_
  refine HW_seq rfl ?_
  refine HW_text (.pure 0 (.pure 1 (.pure 2 (.pure 3 .done)))) (by kernel_rfl) ?_
  refine rw_p rfl rfl (y_fieldAddr rfl fo24_4) ?_
  refine rw_p rfl rfl (y_load rfl sc22 (hm.nt 1 rfl) rfl) ?_
  refine rw_p rfl rfl (y_len rfl rfl sl22) ?_
  refine rw_p rfl rfl (y_assign rfl) ?_
  refine rw_done ?_
  refine gn_sq ?_
  refine HW_seq rfl ?_
  refine HW_seq rfl ?_
  refine HW_text (.pure 0 (.pure 1 (.pure 2 .done))) (by kernel_rfl) ?_
  refine rw_p rfl rfl (y_fieldAddr rfl fo24_0) ?_
  refine rw_p rfl rfl (y_load rfl sc3 (hm.nt 1 rfl) rfl) ?_
  refine rw_p rfl rfl (y_eq rfl rfl) ?_
  refine rw_done ?_
  refine gn_sq ?_
  refine HW_cond rfl rfl (fun hc0 => ?_) (fun hc0 => ?_)
  ·
    simp only [Bool.and_eq_true, Bool.or_eq_true, Bool.and_eq_false_iff, Bool.or_eq_false_iff, Bool.not_eq_true', Bool.not_eq_false', decide_eq_true_eq, decide_eq_false_iff_not] at hc0
    refine HW_text (.pure 0 (.pure 1 (.pure 2 .done))) (by kernel_rfl) ?_
    refine rw_p rfl rfl (y_fieldAddr rfl fo24_3) ?_
    refine rw_p rfl rfl (y_load rfl sc3 (hm.nt 1 rfl) rfl) ?_
    refine rw_p rfl rfl (y_assign rfl) ?_
    refine rw_done ?_
    refine gn_sq ?_
    refine HW_seq rfl ?_
    refine HW_text (.pure 0 (.pure 1 (.pure 2 (.pure 3 (.pure 4 (.act 5 .done)))))) (by kernel_rfl) ?_
    refine rw_p rfl rfl (y_fieldAddr rfl fo24_1) ?_
    refine rw_p rfl rfl (y_load rfl sc3 (hm.nt 1 rfl) rfl) ?_
    refine rw_p rfl rfl (y_move rfl) ?_
    refine rw_p rfl rfl (y_build (cs := [_, _]) z61 ft61 rfl rfl rfl rfl rfl) ?_
    refine rw_p rfl rfl (y_build (cs := [_, _]) z87 ft87 rfl rfl rfl rfl rfl) ?_
    refine a_store rfl rfl rfl rfl sz87 rfl hm 0 rfl rfl fun w hm => ?_
    refine rw_done ?_
    refine gn_sq ?_
    refine HW_ret rfl ?_
    refine toR (fin hret rfl (.cell rfl (run_loadVar_a (vs := [_, _]) ag87 (hm.get (k := 0) rfl) rfl) .nil) .one ?_)
    exact ⟨by simp [Pl.clen, hc0], hm.to⟩
  ·
    simp only [Bool.and_eq_true, Bool.or_eq_true, Bool.and_eq_false_iff, Bool.or_eq_false_iff, Bool.not_eq_true', Bool.not_eq_false', decide_eq_true_eq, decide_eq_false_iff_not] at hc0
    refine HW_skip rfl ?_
    refine gn_sq ?_
    refine HW_seq rfl ?_
    refine HW_text (.pure 0 (.pure 1 (.pure 2 (.pure 3 (.pure 4 (.act 5 .done)))))) (by kernel_rfl) ?_
    refine rw_p rfl rfl (y_fieldAddr rfl fo24_1) ?_
    refine rw_p rfl rfl (y_load rfl sc3 (hm.nt 1 rfl) rfl) ?_
    refine rw_p rfl rfl (y_move rfl) ?_
    refine rw_p rfl rfl (y_build (cs := [_, _]) z61 ft61 rfl rfl rfl rfl rfl) ?_
    refine rw_p rfl rfl (y_build (cs := [_, _]) z87 ft87 rfl rfl rfl rfl rfl) ?_
    refine a_store rfl rfl rfl rfl sz87 rfl hm 0 rfl rfl fun w hm => ?_
    refine rw_done ?_
    refine gn_sq ?_
    refine HW_ret rfl ?_
    refine toR (fin hret rfl (.cell rfl (run_loadVar_a (vs := [_, _]) ag87 (hm.get (k := 0) rfl) rfl) .nil) .one ?_)
    exact ⟨by simp [Pl.clen, hc0], hm.to⟩

theorem c_target (c : Pl.Cm) (p : Option Addr) (cap : Nat) (w0 : World) : C Try.prog 36 [.agg ⟨cmV c p c.bs.length cap⟩] w0 fun v w' => v = .agg ⟨[.int .i64 c.to, .int .i64 (Pl.clen c)]⟩ ∧ Ext No w0 w' := by
  refine C_of Try.func36 rfl rfl rfl fun κ hret hnorm => ?_
  have hm := Mem.start w0
  refine HW_seq rfl ?_
  refine HW_text (.act 0 (.act 1 .done)) (by kernel_rfl) ?_
  refine a_box rfl rfl rfl rfl hm trivial fun m1 w hg_m1 hm hh => ?_
  refine a_alloc rfl rfl z61 hm trivial fun m2 w hg_m2 hm hh => ?_
  refine rw_done ?_
  refine gn_sq ?_
  refine HW_seq rfl ?_
  refine HW_text (.pure 0 (.act 1 (.pure 2 (.act 3 .done)))) (by kernel_rfl) ?_
  refine rw_p rfl rfl (y_loadA (s := 5) (vs := [_, _, _, _, _]) rfl ag24 (hm.nt 1 rfl) rfl) ?_
  refine a_call rfl rfl rfl go58 (c_of _ _ _ _) fun v w hR => ?_
  obtain ⟨rfl, hE⟩ := hR
  refine ⟨trivial, ?_⟩
  replace hm := hm.ext hE
  refine rw_p rfl rfl (y_fieldV rfl fv87_0 rfl) ?_
  refine a_store rfl rfl rfl rfl sz61 rfl hm 0 rfl rfl fun w hm => ?_
  refine rw_done ?_
  refine gn_sq ?_
  refine HW_ret rfl ?_
  refine toR (fin hret rfl (.cell rfl (run_loadVar_a (vs := [_, _]) ag61 (hm.get (k := 0) rfl) rfl) .nil) .one ?_)
  exact ⟨rfl, hm.to⟩

theorem c_source (c : Pl.Cm) (p : Option Addr) (cap : Nat) (w0 : World) : C Try.prog 51 [.agg ⟨cmV c p c.bs.length cap⟩] w0 fun v w' => v = .tuple ⟨[.agg ⟨encE (Pl.csrc c)⟩, .bool (decide (c.k = 1))]⟩ ∧ Ext No w0 w' := by
  refine C_of Try.func51 rfl rfl rfl fun κ hret hnorm => ?_
  have hm := Mem.start w0
  refine HW_seq rfl ?_
  refine HW_text (.act 0 (.act 1 (.pure 2 .done))) (by kernel_rfl) ?_
  refine a_box rfl rfl rfl rfl hm trivial fun m1 w hg_m1 hm hh => ?_
  refine a_alloc rfl rfl z61 hm trivial fun m2 w hg_m2 hm hh => ?_
  refine rw_p rfl rfl (y_assign rfl) ?_
  refine rw_done ?_
  refine gn_sq ?_
  refine HW_seq rfl ?_
  refine HW_seq rfl ?_
  refine HW_text (.pure 0 (.pure 1 (.pure 2 .done))) (by kernel_rfl) ?_
  refine rw_p rfl rfl (y_fieldAddr rfl fo24_0) ?_
  refine rw_p rfl rfl (y_load rfl sc3 (hm.nt 1 rfl) rfl) ?_
  refine rw_p rfl rfl (y_ne rfl rfl) ?_
  refine rw_done ?_
  refine gn_sq ?_
  refine HW_cond rfl rfl (fun hc0 => ?_) (fun hc0 => ?_)
  ·
    simp only [Bool.and_eq_true, Bool.or_eq_true, Bool.and_eq_false_iff, Bool.or_eq_false_iff, Bool.not_eq_true', Bool.not_eq_false', decide_eq_true_eq, decide_eq_false_iff_not] at hc0
    refine HW_seq rfl ?_
    refine HW_text (.pure 0 (.act 1 (.pure 2 .done))) (by kernel_rfl) ?_
    refine rw_p rfl rfl (y_build (cs := [_, _]) z61 ft61 rfl rfl rfl rfl rfl) ?_
    refine a_store rfl rfl rfl rfl sz61 rfl hm 0 rfl rfl fun w hm => ?_
    refine rw_p rfl rfl (y_assign rfl) ?_
    refine rw_done ?_
    refine gn_sq ?_
    refine HW_ret rfl ?_
    refine gr_sq ?_
    refine toR (fin hret rfl (.cell rfl (run_loadVar_a (vs := [_, _]) ag61 (hm.get (k := 0) rfl) rfl) (.tmp rfl .nil)) .more ?_)
    exact ⟨by clear hret hnorm hm; by_cases hk : c.k = 1 <;> simp_all [Pl.csrc, encE], hm.to⟩
  ·
    simp only [Bool.and_eq_true, Bool.or_eq_true, Bool.and_eq_false_iff, Bool.or_eq_false_iff, Bool.not_eq_true', Bool.not_eq_false', decide_eq_true_eq, decide_eq_false_iff_not] at hc0
    refine HW_skip rfl ?_
    refine gn_sq ?_
    refine HW_seq rfl ?_
    refine HW_text (.pure 0 (.pure 1 (.pure 2 (.pure 3 (.pure 4 (.act 5 (.pure 6 .done))))))) (by kernel_rfl) ?_
    refine rw_p rfl rfl (y_fieldAddr rfl fo24_2) ?_
    refine rw_p rfl rfl (y_load rfl sc3 (hm.nt 1 rfl) rfl) ?_
    refine rw_p rfl rfl (y_fieldAddr rfl fo24_3) ?_
    refine rw_p rfl rfl (y_load rfl sc3 (hm.nt 1 rfl) rfl) ?_
    refine rw_p rfl rfl (y_build (cs := [_, _]) z61 ft61 rfl rfl rfl rfl rfl) ?_
    refine a_store rfl rfl rfl rfl sz61 rfl hm 0 rfl rfl fun w hm => ?_
    refine rw_p rfl rfl (y_assign rfl) ?_
    refine rw_done ?_
    refine gn_sq ?_
    refine HW_ret rfl ?_
    refine toR (fin hret rfl (.cell rfl (run_loadVar_a (vs := [_, _]) ag61 (hm.get (k := 0) rfl) rfl) (.tmp rfl .nil)) .more ?_)
    exact ⟨by clear hret hnorm hm; by_cases hk : c.k = 1 <;> simp_all [Pl.csrc, encE], hm.to⟩

theorem c_copy (a b c : Int) (w0 : World) : C Try.prog 70 [.int .i64 a, .int .i64 b, .int .i64 c] w0 fun v w' => v = .agg ⟨cmV ⟨1, a, b, c, []⟩ none 0 0⟩ ∧ Ext No w0 w' := by
  refine C_of Try.func70 rfl rfl rfl fun κ hret hnorm => ?_
  have hm := Mem.start w0
  refine HW_seq rfl ?_
  refine HW_text (.act 0 .done) (by kernel_rfl) ?_
  refine a_alloc rfl rfl z24 hm trivial fun m1 w hg_m1 hm hh => ?_
  refine rw_done ?_
  refine gn_sq ?_
  refine HW_seq rfl ?_
  refine HW_text (.pure 0 (.pure 1 (.pure 2 (.pure 3 (.act 4 .done))))) (by kernel_rfl) ?_
  refine rw_p rfl rfl (y_move rfl) ?_
  refine rw_p rfl rfl (y_move rfl) ?_
  refine rw_p rfl rfl (y_move rfl) ?_
  refine rw_p rfl rfl (y_build (cs := [_, _, _, _, _]) z24 ft24 rfl rfl rfl rfl rfl) ?_
  refine a_store rfl rfl rfl rfl sz24 rfl hm 0 rfl rfl fun w hm => ?_
  refine rw_done ?_
  refine gn_sq ?_
  refine HW_ret rfl ?_
  refine toR (fin hret rfl (.cell rfl (run_loadVar_a (vs := [_, _, _, _, _]) ag24 (hm.get (k := 0) rfl) rfl) .nil) .one ?_)
  exact ⟨rfl, hm.to⟩

theorem r4_len (c : Pl.Cm) (p : Option Addr) (cap : Nat) (w0 : World) : C Try.prog 18 [.agg ⟨cmV c p c.bs.length cap⟩] w0 fun v w' => v = .int .i64 (Pl.clen c) ∧ Ext No w0 w' := by
  refine C_of Try.func18 rfl rfl rfl fun κ hret hnorm => ?_
  have hm := Mem.start w0
  refine HW_seq rfl ?_
  refine HW_text (.act 0 (.pure 1 .done)) (by kernel_rfl) ?_
  refine a_box rfl rfl rfl rfl hm trivial fun m1 w hg_m1 hm hh => ?_
  refine rw_p rfl rfl (y_assign rfl) ?_
  refine rw_done ?_
  refine gn_sq ?_
  refine HW_seq rfl ?_
  refine HW_seq rfl ?_
  refine HW_text (.pure 0 (.pure 1 (.pure 2 .done))) (by kernel_rfl) ?_
  refine rw_p rfl rfl (y_fieldAddr rfl fo24_0) ?_
  refine rw_p rfl rfl (y_load rfl sc3 (hm.nt 0 rfl) rfl) ?_
  refine rw_p rfl rfl (y_eq rfl rfl) ?_
  refine rw_done ?_
  refine gn_sq ?_
  refine HW_cond rfl rfl (fun hc0 => ?_) (fun hc0 => ?_)
  ·
    simp only [Bool.and_eq_true, Bool.or_eq_true, Bool.and_eq_false_iff, Bool.or_eq_false_iff, Bool.not_eq_true', Bool.not_eq_false', decide_eq_true_eq, decide_eq_false_iff_not] at hc0
    refine HW_seq rfl ?_
    refine HW_text (.pure 0 (.pure 1 (.pure 2 .done))) (by kernel_rfl) ?_
    refine rw_p rfl rfl (y_fieldAddr rfl fo24_3) ?_
    refine rw_p rfl rfl (y_load rfl sc3 (hm.nt 0 rfl) rfl) ?_
    refine rw_p rfl rfl (y_assign rfl) ?_
    refine rw_done ?_
    refine gn_sq ?_
    refine HW_ret rfl ?_
    refine gr_sq ?_
    refine toR (fin hret rfl (.tmp rfl .nil) .one ?_)
    exact ⟨by simp [Pl.clen, hc0], hm.to⟩
  ·
    simp only [Bool.and_eq_true, Bool.or_eq_true, Bool.and_eq_false_iff, Bool.or_eq_false_iff, Bool.not_eq_true', Bool.not_eq_false', decide_eq_true_eq, decide_eq_false_iff_not] at hc0
    refine HW_skip rfl ?_
    refine gn_sq ?_
    refine HW_seq rfl ?_
    refine HW_text (.pure 0 (.pure 1 (.pure 2 (.pure 3 .done)))) (by kernel_rfl) ?_
    refine rw_p rfl rfl (y_fieldAddr rfl fo24_4) ?_
    refine rw_p rfl rfl (y_load rfl sc22 (hm.nt 0 rfl) rfl) ?_
    refine rw_p rfl rfl (y_len rfl rfl sl22) ?_
    refine rw_p rfl rfl (y_assign rfl) ?_
    refine rw_done ?_
    refine gn_sq ?_
    refine HW_ret rfl ?_
    refine toR (fin hret rfl (.tmp rfl .nil) .one ?_)
    exact ⟨by simp [Pl.clen, hc0], hm.to⟩

theorem r4_target (c : Pl.Cm) (p : Option Addr) (cap : Nat) (w0 : World) : C Try.prog 40 [.agg ⟨cmV c p c.bs.length cap⟩] w0 fun v w' => v = .agg ⟨[.int .i64 c.to, .int .i64 (Pl.clen c)]⟩ ∧ Ext No w0 w' := by
  refine C_of Try.func40 rfl rfl rfl fun κ hret hnorm => ?_
  have hm := Mem.start w0
  refine HW_seq rfl ?_
  refine HW_text (.act 0 (.act 1 .done)) (by kernel_rfl) ?_
  refine a_box rfl rfl rfl rfl hm trivial fun m1 w hg_m1 hm hh => ?_
  refine a_alloc rfl rfl z61 hm trivial fun m2 w hg_m2 hm hh => ?_
  refine rw_done ?_
  refine gn_sq ?_
  refine HW_seq rfl ?_
  refine HW_draw (.pure 0 (.pure 1 (.pure 2 (.act 3 (.cut (.pure 4 (.act 5 .done))))))) No mix (by kernel_rfl) hm fun w hw hm0 hh => ?_
  have hm := hm0
  refine rw_p rfl rfl (y_fieldAddr rfl fo24_1) ?_
  refine rw_p rfl rfl (y_load rfl sc3 (hm0.nd 1 rfl id) rfl) ?_
  refine rw_p rfl rfl (y_loadA (s := 5) (vs := [_, _, _, _, _]) rfl ag24 (hm0.nd 1 rfl id) rfl) ?_
  refine a_call rfl rfl rfl go18 (r4_len _ _ _ _) fun v w hR => ?_
  obtain ⟨rfl, hE⟩ := hR
  refine ⟨hh.ext hE, ?_⟩
  replace hm := hm.ext hE
  replace hh := hh.ext hE
  refine a_cut ?_
  refine rw_p rfl rfl (y_build (cs := [_, _]) z61 ft61 rfl rfl rfl rfl rfl) ?_
  refine a_store rfl rfl rfl rfl sz61 rfl hm 0 rfl rfl fun w hm => ?_
  refine rw_done ?_
  refine gn_sq ?_
  refine HW_ret rfl ?_
  refine toR (fin hret rfl (.cell rfl (run_loadVar_a (vs := [_, _]) ag61 (hm.get (k := 0) rfl) rfl) .nil) .one ?_)
  exact ⟨rfl, hm.to⟩

theorem r4_source (c : Pl.Cm) (p : Option Addr) (cap : Nat) (w0 : World) : C Try.prog 41 [.agg ⟨cmV c p c.bs.length cap⟩] w0 fun v w' => v = .agg ⟨[.int .i64 c.fr, .int .i64 c.ln]⟩ ∧ Ext No w0 w' := by
  refine C_of Try.func41 rfl rfl rfl fun κ hret hnorm => ?_
  have hm := Mem.start w0
  refine HW_seq rfl ?_
  refine HW_text (.act 0 (.act 1 .done)) (by kernel_rfl) ?_
  refine a_box rfl rfl rfl rfl hm trivial fun m1 w hg_m1 hm hh => ?_
  refine a_alloc rfl rfl z61 hm trivial fun m2 w hg_m2 hm hh => ?_
  refine rw_done ?_
  refine gn_sq ?_
  refine HW_seq rfl ?_
  refine HW_text (.pure 0 (.pure 1 (.pure 2 (.pure 3 (.pure 4 (.act 5 .done)))))) (by kernel_rfl) ?_
  refine rw_p rfl rfl (y_fieldAddr rfl fo24_2) ?_
  refine rw_p rfl rfl (y_load rfl sc3 (hm.nt 1 rfl) rfl) ?_
  refine rw_p rfl rfl (y_fieldAddr rfl fo24_3) ?_
  refine rw_p rfl rfl (y_load rfl sc3 (hm.nt 1 rfl) rfl) ?_
  refine rw_p rfl rfl (y_build (cs := [_, _]) z61 ft61 rfl rfl rfl rfl rfl) ?_
  refine a_store rfl rfl rfl rfl sz61 rfl hm 0 rfl rfl fun w hm => ?_
  refine rw_done ?_
  refine gn_sq ?_
  refine HW_ret rfl ?_
  refine toR (fin hret rfl (.cell rfl (run_loadVar_a (vs := [_, _]) ag61 (hm.get (k := 0) rfl) rfl) .nil) .one ?_)
  exact ⟨rfl, hm.to⟩

set_option maxHeartbeats 400000 in
theorem r4_check (c : Pl.Cm) (p : Option Addr) (cap : Nat) (w0 : World) (hk : Pl.okCm c) (hl : c.bs.length ≤ 9223372036854775807) : C Try.prog 17 [.agg ⟨cmV c p c.bs.length cap⟩] w0 fun v w' => v = .int .i64 (Pl.ccheck c) ∧ Ext No w0 w' := by
  have hk1 := hk.1
  have hk2 := hk.2.1
  have hk3 := hk.2.2.1
  have hk4 := hk.2.2.2
  have hcl := Pl.clen_i64 hk hl
  refine C_of Try.func17 rfl rfl rfl fun κ hret hnorm => ?_
  have hm := Mem.start w0
  refine HW_seq rfl ?_
  refine HW_text (.act 0 (.pure 1 .done)) (by kernel_rfl) ?_
  refine a_box rfl rfl rfl rfl hm trivial fun m1 w hg_m1 hm hh => ?_
  refine rw_p rfl rfl (y_assign rfl) ?_
  refine rw_done ?_
  refine gn_sq ?_
  refine HW_seq rfl ?_
  refine HW_seq rfl ?_
  refine HW_text (.pure 0 (.pure 1 (.pure 2 (.pure 3 (.pure 4 (.pure 5 (.pure 6 (.pure 7 .done)))))))) (by kernel_rfl) ?_
  refine rw_p rfl rfl (y_fieldAddr rfl fo24_0) ?_
  refine rw_p rfl rfl (y_load rfl sc3 (hm.nt 0 rfl) rfl) ?_
  refine rw_p rfl rfl (y_ne rfl rfl) ?_
  refine rw_p rfl rfl (y_move rfl) ?_
  refine rw_g rfl rfl rfl (fun hc => (y_fieldAddr rfl fo24_0)) ?_
  refine rw_g rfl rfl rfl (fun hc => (y_load (gx hc rfl) sc3 (hm.nt 0 rfl) rfl)) ?_
  refine rw_g rfl rfl rfl (fun hc => (y_ne (gx hc rfl) rfl)) ?_
  refine rw_p rfl rfl (y_and rfl rfl rfl) ?_
  refine rw_done ?_
  refine gn_sq ?_
  refine HW_cond rfl rfl (fun hc0 => ?_) (fun hc0 => ?_)
  ·
    simp only [Bool.and_eq_true, Bool.or_eq_true, Bool.and_eq_false_iff, Bool.or_eq_false_iff, Bool.not_eq_true', Bool.not_eq_false', decide_eq_true_eq, decide_eq_false_iff_not] at hc0
    refine HW_seq rfl ?_
    refine HW_text (.pure 0 .done) (by kernel_rfl) ?_
    refine rw_p rfl rfl (y_assign rfl) ?_
    refine rw_done ?_
    refine gn_sq ?_
    refine HW_ret rfl ?_
    refine gr_sq ?_
    refine toR (fin hret rfl (.tmp rfl .nil) .one ?_)
    exact ⟨congrArg (Value.int .i64) (by clear hret hnorm hm; grind [Pl.ccheck]), hm.to⟩
  ·
    simp only [Bool.and_eq_true, Bool.or_eq_true, Bool.and_eq_false_iff, Bool.or_eq_false_iff, Bool.not_eq_true', Bool.not_eq_false', decide_eq_true_eq, decide_eq_false_iff_not] at hc0
    refine HW_skip rfl ?_
    refine gn_sq ?_
    refine HW_seq rfl ?_
    refine HW_seq rfl ?_
    refine HW_text (.pure 0 (.act 1 (.pure 2 .done))) (by kernel_rfl) ?_
    refine rw_p rfl rfl (y_loadA (s := 5) (vs := [_, _, _, _, _]) rfl ag24 (hm.nt 0 rfl) rfl) ?_
    refine a_call rfl rfl rfl go18 (r4_len _ _ _ _) fun v w hR => ?_
    obtain ⟨rfl, hE⟩ := hR
    refine ⟨trivial, ?_⟩
    replace hm := hm.ext hE
    refine rw_p rfl rfl (y_eq rfl rfl) ?_
    refine rw_done ?_
    refine gn_sq ?_
    refine HW_cond rfl rfl (fun hc1 => ?_) (fun hc1 => ?_)
    ·
      simp only [Bool.and_eq_true, Bool.or_eq_true, Bool.and_eq_false_iff, Bool.or_eq_false_iff, Bool.not_eq_true', Bool.not_eq_false', decide_eq_true_eq, decide_eq_false_iff_not] at hc1
      refine HW_seq rfl ?_
      refine HW_text (.pure 0 .done) (by kernel_rfl) ?_
      refine rw_p rfl rfl (y_assign rfl) ?_
      refine rw_done ?_
      refine gn_sq ?_
      refine HW_ret rfl ?_
      refine gr_sq ?_
      refine toR (fin hret rfl (.tmp rfl .nil) .one ?_)
      exact ⟨congrArg (Value.int .i64) (by clear hret hnorm hm; grind [Pl.ccheck]), hm.to⟩
    ·
      simp only [Bool.and_eq_true, Bool.or_eq_true, Bool.and_eq_false_iff, Bool.or_eq_false_iff, Bool.not_eq_true', Bool.not_eq_false', decide_eq_true_eq, decide_eq_false_iff_not] at hc1
      refine HW_skip rfl ?_
      refine gn_sq ?_
      refine HW_seq rfl ?_
      refine HW_seq rfl ?_
      refine HW_text (.pure 0 (.act 1 (.act 2 (.pure 3 .done)))) (by kernel_rfl) ?_
      refine rw_p rfl rfl (y_loadA (s := 5) (vs := [_, _, _, _, _]) rfl ag24 (hm.nt 0 rfl) rfl) ?_
      refine a_call rfl rfl rfl go40 (r4_target _ _ _ _) fun v w hR => ?_
      obtain ⟨rfl, hE⟩ := hR
      refine ⟨trivial, ?_⟩
      replace hm := hm.ext hE
      refine a_call rfl rfl rfl go39 (r1_valid _ _ _ (by omega) (by omega)) fun v w hR => ?_
      obtain ⟨rfl, hE⟩ := hR
      refine ⟨trivial, ?_⟩
      replace hm := hm.ext hE
      refine rw_p rfl rfl (y_not rfl) ?_
      refine rw_done ?_
      refine gn_sq ?_
      refine HW_cond rfl rfl (fun hc2 => ?_) (fun hc2 => ?_)
      ·
        simp only [Bool.and_eq_true, Bool.or_eq_true, Bool.and_eq_false_iff, Bool.or_eq_false_iff, Bool.not_eq_true', Bool.not_eq_false', decide_eq_true_eq, decide_eq_false_iff_not] at hc2
        refine HW_seq rfl ?_
        refine HW_text (.pure 0 .done) (by kernel_rfl) ?_
        refine rw_p rfl rfl (y_assign rfl) ?_
        refine rw_done ?_
        refine gn_sq ?_
        refine HW_ret rfl ?_
        refine gr_sq ?_
        refine toR (fin hret rfl (.tmp rfl .nil) .one ?_)
        exact ⟨congrArg (Value.int .i64) (by clear hret hnorm hm; grind [Pl.ccheck]), hm.to⟩
      ·
        simp only [Bool.and_eq_true, Bool.or_eq_true, Bool.and_eq_false_iff, Bool.or_eq_false_iff, Bool.not_eq_true', Bool.not_eq_false', decide_eq_true_eq, decide_eq_false_iff_not] at hc2
        refine HW_skip rfl ?_
        refine gn_sq ?_
        refine HW_seq rfl ?_
        refine HW_seq rfl ?_
        refine HW_text (.pure 0 (.pure 1 (.pure 2 (.pure 3 (.pure 4 (.pure 5 (.pure 6 (.pure 7 (.pure 8 (.pure 9 (.act 10 (.act 11 (.pure 12 (.pure 13 (.pure 14 .done))))))))))))))) (by kernel_rfl) ?_
        refine rw_p rfl rfl (y_fieldAddr rfl fo24_0) ?_
        refine rw_p rfl rfl (y_load rfl sc3 (hm.nt 0 rfl) rfl) ?_
        refine rw_p rfl rfl (y_eq rfl rfl) ?_
        refine rw_p rfl rfl (y_move rfl) ?_
        refine rw_g rfl rfl rfl (fun hc => (y_fieldAddr rfl fo24_4)) ?_
        refine rw_g rfl rfl rfl (fun hc => (y_load (gx hc rfl) sc22 (hm.nt 0 rfl) rfl)) ?_
        refine rw_g rfl rfl rfl (fun hc => (y_len (gx hc rfl) rfl sl22)) ?_
        refine rw_g rfl rfl rfl (fun hc => (y_gt (gx hc rfl) rfl)) ?_
        refine rw_g rfl rfl rfl (fun hc => (y_move (gx hc rfl))) ?_
        refine rw_gg rfl rfl rfl (fun hc => (y_loadA (s := 5) (vs := [_, _, _, _, _]) rfl ag24 (hm.nt 0 rfl) rfl)) ?_
        refine a_callGG rfl rfl rfl (fun hc => (evs_c (gx hc rfl) evs_n)) go41 (fun hc => (r4_source _ _ _ _)) trivial fun w hE hh => ?_
        replace hm := hm.ext hE
        refine a_callGG rfl rfl rfl (fun hc => (evs_c (gx hc rfl) evs_n)) go39 (fun hc => (r1_valid _ _ _ (by omega) (by omega))) trivial fun w hE hh => ?_
        replace hm := hm.ext hE
        refine rw_gg rfl rfl rfl (fun hc => (y_not (gx hc rfl))) ?_
        refine rw_g rfl rfl rfl (fun hc => (y_or (gx hc rfl) rfl (gvn hc rfl))) ?_
        refine rw_p rfl rfl (y_and rfl rfl rfl) ?_
        refine rw_done ?_
        refine gn_sq ?_
        refine HW_cond rfl rfl (fun hc3 => ?_) (fun hc3 => ?_)
        ·
          simp only [Bool.and_eq_true, Bool.or_eq_true, Bool.and_eq_false_iff, Bool.or_eq_false_iff, Bool.not_eq_true', Bool.not_eq_false', decide_eq_true_eq, decide_eq_false_iff_not] at hc3
          refine HW_seq rfl ?_
          refine HW_text (.pure 0 .done) (by kernel_rfl) ?_
          refine rw_p rfl rfl (y_assign rfl) ?_
          refine rw_done ?_
          refine gn_sq ?_
          refine HW_ret rfl ?_
          refine gr_sq ?_
          refine toR (fin hret rfl (.tmp rfl .nil) .one ?_)
          exact ⟨congrArg (Value.int .i64) (by clear hret hnorm hm; grind [Pl.ccheck]), hm.to⟩
        ·
          simp only [Bool.and_eq_true, Bool.or_eq_true, Bool.and_eq_false_iff, Bool.or_eq_false_iff, Bool.not_eq_true', Bool.not_eq_false', decide_eq_true_eq, decide_eq_false_iff_not] at hc3
          refine HW_skip rfl ?_
          refine gn_sq ?_
          refine HW_seq rfl ?_
          refine HW_seq rfl ?_
          refine HW_text (.pure 0 (.pure 1 (.pure 2 (.pure 3 (.pure 4 (.pure 5 (.pure 6 (.pure 7 (.pure 8 (.pure 9 (.pure 10 (.pure 11 (.pure 12 .done))))))))))))) (by kernel_rfl) ?_
          refine rw_p rfl rfl (y_fieldAddr rfl fo24_0) ?_
          refine rw_p rfl rfl (y_load rfl sc3 (hm.nt 0 rfl) rfl) ?_
          refine rw_p rfl rfl (y_eq rfl rfl) ?_
          refine rw_p rfl rfl (y_move rfl) ?_
          refine rw_g rfl rfl rfl (fun hc => (y_fieldAddr rfl fo24_2)) ?_
          refine rw_g rfl rfl rfl (fun hc => (y_load (gx hc rfl) sc3 (hm.nt 0 rfl) rfl)) ?_
          refine rw_g rfl rfl rfl (fun hc => (y_ne (gx hc rfl) rfl)) ?_
          refine rw_g rfl rfl rfl (fun hc => (y_move (gx hc rfl))) ?_
          refine rw_gg rfl rfl rfl (fun hc => (y_fieldAddr rfl fo24_3)) ?_
          refine rw_gg rfl rfl rfl (fun hc => (y_load (gx hc rfl) sc3 (hm.nt 0 rfl) rfl)) ?_
          refine rw_gg rfl rfl rfl (fun hc => (y_ne (gx hc rfl) rfl)) ?_
          refine rw_g rfl rfl rfl (fun hc => (y_or (gx hc rfl) rfl (gvn hc rfl))) ?_
          refine rw_p rfl rfl (y_and rfl rfl rfl) ?_
          refine rw_done ?_
          refine gn_sq ?_
          refine HW_cond rfl rfl (fun hc4 => ?_) (fun hc4 => ?_)
          ·
            simp only [Bool.and_eq_true, Bool.or_eq_true, Bool.and_eq_false_iff, Bool.or_eq_false_iff, Bool.not_eq_true', Bool.not_eq_false', decide_eq_true_eq, decide_eq_false_iff_not] at hc4
            refine HW_seq rfl ?_
            refine HW_text (.pure 0 .done) (by kernel_rfl) ?_
            refine rw_p rfl rfl (y_assign rfl) ?_
            refine rw_done ?_
            refine gn_sq ?_
            refine HW_ret rfl ?_
            refine gr_sq ?_
            refine toR (fin hret rfl (.tmp rfl .nil) .one ?_)
            exact ⟨congrArg (Value.int .i64) (by clear hret hnorm hm; grind [Pl.ccheck]), hm.to⟩
          ·
            simp only [Bool.and_eq_true, Bool.or_eq_true, Bool.and_eq_false_iff, Bool.or_eq_false_iff, Bool.not_eq_true', Bool.not_eq_false', decide_eq_true_eq, decide_eq_false_iff_not] at hc4
            refine HW_skip rfl ?_
            refine gn_sq ?_
            refine HW_seq rfl ?_
            refine HW_text (.pure 0 .done) (by kernel_rfl) ?_
            refine rw_p rfl rfl (y_assign rfl) ?_
            refine rw_done ?_
            refine gn_sq ?_
            refine HW_ret rfl ?_
            refine toR (fin hret rfl (.tmp rfl .nil) .one ?_)
            exact ⟨congrArg (Value.int .i64) (by clear hret hnorm hm; grind [Pl.ccheck]), hm.to⟩

theorem r4_same (a b : Pl.Cm) (p q : Option Addr) (c1 c2 : Nat) (w0 : World) (hp : Rd w0 p (a.bs.flatMap encB)) (hq : Rd w0 q (b.bs.flatMap encB)) : C Try.prog 23 [.agg ⟨cmV a p a.bs.length c1⟩, .agg ⟨cmV b q b.bs.length c2⟩] w0 fun v w' => v = .bool (Pl.csame a b) ∧ Ext No w0 w' := by
  refine C_of Try.func23 rfl rfl rfl fun κ hret hnorm => ?_
  have hm := Mem.start w0
  refine HW_seq rfl ?_
  refine HW_text (.act 0 (.act 1 (.pure 2 .done))) (by kernel_rfl) ?_
  refine a_box rfl rfl rfl rfl hm trivial fun m1 w hg_m1 hm hh => ?_
  refine a_box rfl rfl rfl rfl hm trivial fun m2 w hg_m2 hm hh => ?_
  refine rw_p rfl rfl (y_assign rfl) ?_
  refine rw_done ?_
  refine gn_sq ?_
  refine HW_seq rfl ?_
  refine HW_text (.pure 0 (.pure 1 (.pure 2 (.pure 3 (.pure 4 (.pure 5 (.pure 6 (.pure 7 (.pure 8 (.pure 9 (.pure 10 (.pure 11 (.pure 12 (.pure 13 (.pure 14 (.pure 15 (.pure 16 (.pure 17 (.pure 18 (.pure 19 (.pure 20 (.pure 21 (.pure 22 (.pure 23 (.pure 24 (.pure 25 (.pure 26 (.pure 27 (.pure 28 (.pure 29 (.pure 30 (.pure 31 (.pure 32 (.pure 33 (.pure 34 (.pure 35 .done)))))))))))))))))))))))))))))))))))) (by kernel_rfl) ?_
  refine rw_p rfl rfl (y_fieldAddr rfl fo24_0) ?_
  refine rw_p rfl rfl (y_load rfl sc3 (hm.nt 1 rfl) rfl) ?_
  refine rw_p rfl rfl (y_fieldAddr rfl fo24_0) ?_
  refine rw_p rfl rfl (y_load rfl sc3 (hm.nt 0 rfl) rfl) ?_
  refine rw_p rfl rfl (y_eq rfl rfl) ?_
  refine rw_p rfl rfl (y_move rfl) ?_
  refine rw_g rfl rfl rfl (fun hc => (y_fieldAddr rfl fo24_1)) ?_
  refine rw_g rfl rfl rfl (fun hc => (y_load (gx hc rfl) sc3 (hm.nt 1 rfl) rfl)) ?_
  refine rw_g rfl rfl rfl (fun hc => (y_fieldAddr rfl fo24_1)) ?_
  refine rw_g rfl rfl rfl (fun hc => (y_load (gx hc rfl) sc3 (hm.nt 0 rfl) rfl)) ?_
  refine rw_g rfl rfl rfl (fun hc => (y_eq (gx hc rfl) (gx hc rfl))) ?_
  refine rw_p rfl rfl (y_and rfl rfl rfl) ?_
  refine rw_p rfl rfl (y_move rfl) ?_
  refine rw_g rfl rfl rfl (fun hc => (y_fieldAddr rfl fo24_2)) ?_
  refine rw_g rfl rfl rfl (fun hc => (y_load (gx hc rfl) sc3 (hm.nt 1 rfl) rfl)) ?_
  refine rw_g rfl rfl rfl (fun hc => (y_fieldAddr rfl fo24_2)) ?_
  refine rw_g rfl rfl rfl (fun hc => (y_load (gx hc rfl) sc3 (hm.nt 0 rfl) rfl)) ?_
  refine rw_g rfl rfl rfl (fun hc => (y_eq (gx hc rfl) (gx hc rfl))) ?_
  refine rw_p rfl rfl (y_and rfl rfl rfl) ?_
  refine rw_p rfl rfl (y_move rfl) ?_
  refine rw_g rfl rfl rfl (fun hc => (y_fieldAddr rfl fo24_3)) ?_
  refine rw_g rfl rfl rfl (fun hc => (y_load (gx hc rfl) sc3 (hm.nt 1 rfl) rfl)) ?_
  refine rw_g rfl rfl rfl (fun hc => (y_fieldAddr rfl fo24_3)) ?_
  refine rw_g rfl rfl rfl (fun hc => (y_load (gx hc rfl) sc3 (hm.nt 0 rfl) rfl)) ?_
  refine rw_g rfl rfl rfl (fun hc => (y_eq (gx hc rfl) (gx hc rfl))) ?_
  refine rw_p rfl rfl (y_and rfl rfl rfl) ?_
  refine rw_p rfl rfl (y_move rfl) ?_
  refine rw_g rfl rfl rfl (fun hc => (y_fieldAddr rfl fo24_4)) ?_
  refine rw_g rfl rfl rfl (fun hc => (y_load (gx hc rfl) sc22 (hm.nt 1 rfl) rfl)) ?_
  refine rw_g rfl rfl rfl (fun hc => (y_cvs (gx hc rfl) bt22_9 ((hp.ext0 hm.to).nt) rfl)) ?_
  refine rw_g rfl rfl rfl (fun hc => (y_fieldAddr rfl fo24_4)) ?_
  refine rw_g rfl rfl rfl (fun hc => (y_load (gx hc rfl) sc22 (hm.nt 0 rfl) rfl)) ?_
  refine rw_g rfl rfl rfl (fun hc => (y_cvs (gx hc rfl) bt22_9 ((hq.ext0 hm.to).nt) rfl)) ?_
  refine rw_g rfl rfl rfl (fun hc => (y_seqB (gx hc rfl) (gx hc rfl))) ?_
  refine rw_p rfl rfl (y_and rfl rfl rfl) ?_
  refine rw_p rfl rfl (y_assign rfl) ?_
  refine rw_done ?_
  refine gn_sq ?_
  refine HW_ret rfl ?_
  refine toR (fin hret rfl (.tmp rfl .nil) .one ?_)
  exact ⟨congrArg Value.bool (by simp only [Pl.csame]), hm.to⟩

set_option maxHeartbeats 400000 in
theorem concat_b (q : Option Addr) (cq : Nat) (ps : List SB) (w0 : World) (hq : Rd w0 q (ps.flatMap encS)) (hps : ∀ s ∈ ps, Rd w0 s.p (s.bs.flatMap encB)) (hl : ps.length ≤ 4611686018427387903) (hb : (ps.flatMap (·.bs)).length ≤ 140737488355328) : C Try.prog 76 [.slice q ps.length cq] w0 fun v w' => ∃ p n cap g b, v = .slice p n cap ∧ Acc 5 1 p n cap ((ps.flatMap (·.bs)).flatMap encB) g b ∧ Mem w0 w' No [(g, b)] := by
  refine C_of Try.func76 rfl rfl rfl fun κ hret hnorm => ?_
  have hm := Mem.start w0
  refine HW_seq rfl ?_
  refine HW_text (.pure 0 .done) (by kernel_rfl) ?_
  refine rw_p rfl rfl (y_assign rfl) ?_
  refine rw_done ?_
  refine gn_sq ?_
  refine HW_seq rfl ?_
  refine HW_text (.pure 0 .done) (by kernel_rfl) ?_
  refine rw_p rfl rfl (y_assign rfl) ?_
  refine rw_done ?_
  refine gn_sq ?_
  refine HW_seq rfl ?_
  refine HW_seq rfl ?_
  refine HW_text (.pure 0 (.pure 1 (.pure 2 .done))) (by kernel_rfl) ?_
  refine rw_p rfl rfl (y_move rfl) ?_
  refine rw_p rfl rfl (y_len rfl rfl sl105) ?_
  refine rw_p rfl rfl (y_move rfl) ?_
  refine rw_done ?_
  refine gn_sq ?_
  refine HW_block rfl ?_
  refine HW_loopK (ι := Nat) rfl (ks := [0, 2, 9, 10]) (.cons rfl (.cons rfl (.cons rfl (.cons rfl .nil)))) (fun k => [(11, .int .i64 k), (3, .int .i64 (((ps.take k).flatMap (·.bs)).length : Nat))]) (fun k w => Mem w0 w No [] ∧ k ≤ ps.length) (fun k => ps.length - k) 0 (⟨hm, Nat.zero_le _⟩) ⟨rfl, rfl, trivial⟩ (fun k w hM => ?_)
  obtain ⟨hm, hk⟩ := hM
  refine HW_seq rfl ?_
  refine HW_text (.pure 0 .done) (by kernel_rfl) ?_
  refine rw_p rfl rfl (y_lt rfl rfl) ?_
  refine rw_done ?_
  refine gn_sq ?_
  refine HW_seq rfl ?_
  refine HW_cond rfl rfl (fun hc0 => ?_) (fun hc0 => ?_)
  ·
    simp only [decide_eq_true_eq] at hc0
    obtain ⟨s, hi⟩ : ∃ y_, ps[k]? = some y_ := ⟨_, List.getElem?_eq_getElem (by omega)⟩
    obtain ⟨qb, qo, rfl⟩ := hq.atI encS_len (by decide) hi
    have hnx : ((((ps.take (k + 1)).flatMap (·.bs)).length : Nat) : Int) = (((ps.take k).flatMap (·.bs)).length : Nat) + s.bs.length := by rw [List.take_add_one, hi]; simp
    have hlt := fmTake (·.bs) ps (k + 1)
    refine HW_skip rfl ?_
    refine gn_sq ?_
    refine HW_seq rfl ?_
    refine HW_block rfl ?_
    refine HW_seq rfl ?_
    refine HW_text (.pure 0 (.pure 1 (.pure 2 .done))) (by kernel_rfl) ?_
    refine rw_p rfl rfl (y_index rfl rfl sl105 rfl (by omega) (by omega)) ?_
    refine rw_p rfl rfl (y_el1 rfl sc22 (hq.ext0 hm.to).nt encS_len hi rfl) ?_
    refine rw_p rfl rfl (y_assign rfl) ?_
    refine rw_done ?_
    refine gn_sq ?_
    refine HW_seq rfl ?_
    refine HW_text (.pure 0 (.pure 1 (.pure 2 (.pure 3 (.pure 4 .done))))) (by kernel_rfl) ?_
    refine rw_p rfl rfl (y_move rfl) ?_
    refine rw_p rfl rfl (y_move rfl) ?_
    refine rw_p rfl rfl (y_len rfl rfl sl22) ?_
    refine rw_p rfl rfl (y_add rfl rfl (i64w (by omega) (by omega))) ?_
    refine rw_p rfl rfl (y_assign rfl) ?_
    refine rw_done ?_
    refine gn_sq ?_
    refine HW_seq rfl ?_
    refine HW_text (.pure 0 (.pure 1 .done)) (by kernel_rfl) ?_
    refine rw_p rfl rfl (y_move rfl) ?_
    refine rw_p rfl rfl (y_lt rfl rfl) ?_
    refine rw_done ?_
    refine gn_sq ?_
    refine HW_condF rfl rfl (decide_eq_false (by omega)) ?_
    refine HW_skip rfl ?_
    refine gn_bl ?_
    refine gn_sq ?_
    refine HW_text (.pure 0 (.pure 1 .done)) (by kernel_rfl) ?_
    refine rw_p rfl rfl (y_add rfl rfl (i64w (by omega) (by omega))) ?_
    refine rw_p rfl rfl (y_move rfl) ?_
    refine rw_done ?_
    refine next (k + 1) (by omega) ⟨hm, by omega⟩ ⟨nx k, by rw [hnx]; rfl, rfl, rfl, rfl, rfl, trivial⟩
  ·
    simp only [decide_eq_false_iff_not] at hc0
    obtain rfl : k = ps.length := by omega
    obtain ⟨T, hT⟩ : ∃ T, (ps.flatMap (·.bs)).length = T := ⟨_, rfl⟩
    refine HW_exit rfl ?_
    refine gx_sq (gx_lp ?_)
    refine gx_here ?_
    refine gn_sq ?_
    refine HW_seq rfl ?_
    refine HW_text (.pure 0 (.act 1 (.pure 2 .done))) (by kernel_rfl) ?_
    refine rw_p rfl rfl (y_v (y_move rfl) (show _ = Value.int .i64 (T : Nat) by rw [List.take_length, hT])) ?_
    refine a_call rfl rfl rfl go77 (grow_b0 T _ (by omega)) fun v w hR => ?_
    obtain ⟨p_s, cap_s, g_s, b_s, rfl, ha_s, hmc⟩ := hR
    refine ⟨trivial, ?_⟩
    replace hm := hm.callN hmc
    refine rw_p rfl rfl (y_assign rfl) ?_
    refine rw_done ?_
    refine gn_sq ?_
    refine HW_seq rfl ?_
    refine HW_seq rfl ?_
    refine HW_text (.pure 0 (.pure 1 (.pure 2 .done))) (by kernel_rfl) ?_
    refine rw_p rfl rfl (y_move rfl) ?_
    refine rw_p rfl rfl (y_len rfl rfl sl105) ?_
    refine rw_p rfl rfl (y_move rfl) ?_
    refine rw_done ?_
    refine gn_sq ?_
    refine HW_block rfl ?_
    refine HW_loopK (ι := Nat × Ow) rfl (ks := [2, 25, 26]) (.cons rfl (.cons rfl (.cons rfl .nil))) (fun x => [(27, .int .i64 x.1), (6, .slice x.2.p x.2.n x.2.cap)]) (fun x w => Mem w0 w No [(x.2.g, x.2.b)] ∧ Acc 5 1 x.2.p x.2.n x.2.cap (((ps.take x.1).flatMap (·.bs)).flatMap encB) x.2.g x.2.b ∧ x.1 ≤ ps.length) (fun x => ps.length - x.1) (0, ⟨p_s, _, cap_s, g_s, b_s⟩) (⟨hm, ha_s, Nat.zero_le _⟩) ⟨rfl, rfl, trivial⟩ (fun x w hM => ?_)
    obtain ⟨hm, ha_s, hk⟩ := hM
    refine HW_seq rfl ?_
    refine HW_text (.pure 0 .done) (by kernel_rfl) ?_
    refine rw_p rfl rfl (y_lt rfl rfl) ?_
    refine rw_done ?_
    refine gn_sq ?_
    refine HW_seq rfl ?_
    refine HW_cond rfl rfl (fun hc2 => ?_) (fun hc2 => ?_)
    ·
      simp only [decide_eq_true_eq] at hc2
      obtain ⟨s, hi⟩ : ∃ y_, ps[x.1]? = some y_ := ⟨_, List.getElem?_eq_getElem (by omega)⟩
      obtain ⟨qb, qo, rfl⟩ := hq.atI encS_len (by decide) hi
      have hn := ha_s.lenB
      have hlt := fmTake (·.bs) ps (x.1 + 1)
      have hnx : ((ps.take (x.1 + 1)).flatMap (·.bs)).length = ((ps.take x.1).flatMap (·.bs)).length + s.bs.length := by rw [List.take_add_one, hi]; simp
      refine HW_skip rfl ?_
      refine gn_sq ?_
      refine HW_seq rfl ?_
      refine HW_block rfl ?_
      refine HW_seq rfl ?_
      refine HW_text (.pure 0 (.pure 1 (.pure 2 .done))) (by kernel_rfl) ?_
      refine rw_p rfl rfl (y_index rfl rfl sl105 rfl (by omega) (by omega)) ?_
      refine rw_p rfl rfl (y_el1 rfl sc22 (hq.ext0 hm.to).nt encS_len hi rfl) ?_
      refine rw_p rfl rfl (y_assign rfl) ?_
      refine rw_done ?_
      refine gn_sq ?_
      refine HW_text (.pure 0 (.pure 1 (.act 2 (.pure 3 .done)))) (by kernel_rfl) ?_
      refine rw_p rfl rfl (y_move rfl) ?_
      refine rw_p rfl rfl (y_move rfl) ?_
      refine a_append rfl rfl rfl rfl rfl rfl sl22 sl22 z5 rfl (oneB s.bs) ((hps s (List.mem_of_getElem? hi)).ext0 hm.to) (lenB s.bs) ha_s hm 0 rfl (by omega) (by omega) fun p_s cap_s g_s b_s w ha_s hm => ?_
      refine rw_p rfl rfl (y_assign rfl) ?_
      refine rw_done ?_
      refine gn_bl ?_
      refine gn_sq ?_
      refine HW_text (.pure 0 (.pure 1 .done)) (by kernel_rfl) ?_
      refine rw_p rfl rfl (y_add rfl rfl (i64w (by omega) (by omega))) ?_
      refine rw_p rfl rfl (y_move rfl) ?_
      refine rw_done ?_
      refine next (x.1 + 1, ⟨p_s, _, cap_s, g_s, b_s⟩) (by simp only; omega) ⟨hm, ha_s.to ?_, by simp only; omega⟩ ⟨nx x.1, rfl, rfl, rfl, rfl, trivial⟩
      simp only [List.take_add_one, hi, Option.toList, List.flatMap_append, List.flatMap_cons, List.flatMap_nil, List.append_nil]
    ·
      simp only [decide_eq_false_iff_not] at hc2
      have hke : x.1 = ps.length := by omega
      rw [hke, List.take_length] at ha_s
      refine HW_exit rfl ?_
      refine gx_sq (gx_lp ?_)
      refine gx_here ?_
      refine gn_sq ?_
      refine HW_seq rfl ?_
      refine HW_text (.pure 0 (.pure 1 .done)) (by kernel_rfl) ?_
      refine rw_p rfl rfl (y_move rfl) ?_
      refine rw_p rfl rfl (y_assign rfl) ?_
      refine rw_done ?_
      refine gn_sq ?_
      refine HW_ret rfl ?_
      refine toR (fin hret rfl (.tmp rfl .nil) .one ?_)
      exact ⟨_, _, _, _, _, rfl, ha_s, hm⟩

theorem c_literal (a : Int) (q : Option Addr) (cq : Nat) (ps : List SB) (w0 : World) (hq : Rd w0 q (ps.flatMap encS)) (hps : ∀ s ∈ ps, Rd w0 s.p (s.bs.flatMap encB)) (hl : ps.length ≤ 4611686018427387903) (hb : (ps.flatMap (·.bs)).length ≤ 140737488355328) : C Try.prog 71 [.int .i64 a, .slice q ps.length cq] w0 fun v w' => ∃ p n cap g bb, v = .agg ⟨cmV ⟨2, a, 0, 0, ps.flatMap (·.bs)⟩ p n cap⟩ ∧ Acc 5 1 p n cap ((⟨2, a, 0, 0, ps.flatMap (·.bs)⟩ : Pl.Cm).bs.flatMap encB) g bb ∧ Mem w0 w' No [(g, bb)] := by
  refine C_of Try.func71 rfl rfl rfl fun κ hret hnorm => ?_
  have hm := Mem.start w0
  refine HW_seq rfl ?_
  refine HW_text (.act 0 .done) (by kernel_rfl) ?_
  refine a_alloc rfl rfl z24 hm trivial fun m1 w hg_m1 hm hh => ?_
  refine rw_done ?_
  refine gn_sq ?_
  refine HW_seq rfl ?_
  refine HW_text (.pure 0 (.pure 1 (.act 2 (.pure 3 (.act 4 .done))))) (by kernel_rfl) ?_
  refine rw_p rfl rfl (y_move rfl) ?_
  refine rw_p rfl rfl (y_move rfl) ?_
  refine a_call rfl rfl rfl go76 (concat_b q cq ps _ (hq.ext0 hm.to) (fun s hs => (hps s hs).ext0 hm.to) hl hb) fun v w hR => ?_
  obtain ⟨p_s, n_s, cap_s, g_s, b_s, rfl, ha_s, hmc⟩ := hR
  refine ⟨trivial, ?_⟩
  replace hm := hm.callN hmc
  refine rw_p rfl rfl (y_build (cs := [_, _, _, _, _]) z24 ft24 rfl rfl rfl rfl rfl) ?_
  refine a_store rfl rfl rfl rfl sz24 rfl hm 1 rfl rfl fun w hm => ?_
  refine rw_done ?_
  refine gn_sq ?_
  refine HW_ret rfl ?_
  refine toR (fin hret rfl (.cell rfl (run_loadVar_a (vs := [_, _, _, _, _]) ag24 (hm.get (k := 1) rfl) rfl) .nil) .one ?_)
  exact ⟨_, _, _, _, _, rfl, ha_s, (hm.pick [0] rfl)⟩

theorem c_has (a b c e : Int) (w0 : World) (h1 : Pl.I64 (a + b)) (h2 : Pl.I64 (c + e)) : C Try.prog 69 [.agg ⟨[.int .i64 a, .int .i64 b]⟩, .agg ⟨[.int .i64 c, .int .i64 e]⟩] w0 fun v w' => v = .bool (decide (0 < e) && Pl.within a b c e) ∧ Ext No w0 w' := by
  refine C_of Try.func69 rfl rfl rfl fun κ hret hnorm => ?_
  have hm := Mem.start w0
  refine HW_seq rfl ?_
  refine HW_text (.act 0 (.act 1 (.pure 2 .done))) (by kernel_rfl) ?_
  refine a_box rfl rfl rfl rfl hm trivial fun m1 w hg_m1 hm hh => ?_
  refine a_box rfl rfl rfl rfl hm trivial fun m2 w hg_m2 hm hh => ?_
  refine rw_p rfl rfl (y_assign rfl) ?_
  refine rw_done ?_
  refine gn_sq ?_
  refine HW_seq rfl ?_
  by_cases he : 0 < e
  ·
    refine HW_text (.pure 0 (.pure 1 (.pure 2 (.pure 3 (.pure 4 (.pure 5 (.pure 6 (.act 7 (.act 8 (.pure 9 (.pure 10 .done))))))))))) (by kernel_rfl) ?_
    refine rw_p rfl rfl (y_fieldAddr rfl fo61_1) ?_
    refine rw_p rfl rfl (y_load rfl sc3 (hm.nt 0 rfl) rfl) ?_
    refine rw_p rfl rfl (y_as (c := true) (y_gt rfl rfl) (by simpa using he)) ?_
    refine rw_p rfl rfl (y_move rfl) ?_
    refine rw_p rfl rfl (y_fieldAddr rfl fo87_0) ?_
    refine rw_p rfl rfl (y_loadA (s := 2) (vs := [_, _]) rfl ag61 (hm.nt 1 rfl) rfl) ?_
    refine rw_p rfl rfl (y_loadA (s := 2) (vs := [_, _]) rfl ag61 (hm.nt 0 rfl) rfl) ?_
    refine a_buildSlice (l := [_, _]) rfl rfl sl94 z61 rfl rfl rfl rfl rfl rfl rfl hm trivial fun m3 w hg_m3 hm hh => ?_
    refine a_call rfl rfl rfl go52 (ext_contains a b _ 1 [(c, e)] _ h1 (Rd.row0 (hm.get (k := 0) rfl)) (by simp) (by simp only [List.mem_singleton]; rintro _ rfl; exact h2)) fun v w hR => ?_
    obtain ⟨rfl, hE⟩ := hR
    refine ⟨trivial, ?_⟩
    replace hm := hm.ext hE
    refine rw_p rfl rfl (y_pickT rfl rfl) ?_
    refine rw_p rfl rfl (y_assign rfl) ?_
    refine rw_done ?_
    refine gn_sq ?_
    refine HW_ret rfl ?_
    refine toR (fin hret rfl (.tmp rfl .nil) .one ?_)
    exact ⟨by simp [he], hm.to⟩
  ·
    refine HW_text (.pure 0 (.pure 1 (.pure 2 (.pure 3 (.pure 4 (.pure 5 (.pure 6 (.act 7 (.act 8 (.pure 9 (.pure 10 .done))))))))))) (by kernel_rfl) ?_
    refine rw_p rfl rfl (y_fieldAddr rfl fo61_1) ?_
    refine rw_p rfl rfl (y_load rfl sc3 (hm.nt 0 rfl) rfl) ?_
    refine rw_p rfl rfl (y_as (c := false) (y_gt rfl rfl) (by simpa using he)) ?_
    refine rw_p rfl rfl (y_move rfl) ?_
    refine rw_gf rfl rfl (by decide) rfl ?_
    refine rw_gf rfl rfl (by decide) rfl ?_
    refine rw_gf rfl rfl (by decide) rfl ?_
    refine a_gf rfl rfl (by decide) rfl trivial ?_
    refine a_gf rfl rfl (by decide) rfl trivial ?_
    refine rw_p rfl rfl (y_pickF rfl rfl) ?_
    refine rw_p rfl rfl (y_assign rfl) ?_
    refine rw_done ?_
    refine gn_sq ?_
    refine HW_ret rfl ?_
    refine toR (fin hret rfl (.tmp rfl .nil) .one ?_)
    exact ⟨by simp [he], hm.to⟩

set_option maxHeartbeats 400000 in
theorem c_part (c : Pl.Cm) (p : Option Addr) (cap : Nat) (a b : Int) (w0 : World) (hc : Pl.ccheck c = 0) (hr : Rd w0 p (c.bs.flatMap encB)) (hle : c.bs.length ≤ cap) (hsp : cap ≠ 0 → ∀ ad, p = some ad → ad.spot = none) (hl : c.bs.length ≤ 140737488355328) (he : 0 ≤ a ∧ 0 ≤ b ∧ a + b ≤ 4611686018427387903) : C Try.prog 63 [.agg ⟨cmV c p c.bs.length cap⟩, .agg ⟨[.int .i64 a, .int .i64 b]⟩] w0 fun v w' => ∃ p n cap g bb, v = .tuple ⟨[.agg ⟨cmV (Pl.cpartD c a b) p n cap⟩, .bool (Pl.cpart c a b).isSome]⟩ ∧ Acc 5 1 p n cap ((Pl.cpartD c a b).bs.flatMap encB) g bb ∧ Mem w0 w' No [(g, bb)] := by
  have hk := Pl.ccheck_ok hc
  refine C_of Try.func63 rfl rfl rfl fun κ hret hnorm => ?_
  have hm := Mem.start w0
  refine HW_seq rfl ?_
  refine HW_text (.act 0 (.act 1 (.act 2 (.pure 3 .done)))) (by kernel_rfl) ?_
  refine a_box rfl rfl rfl rfl hm trivial fun m1 w hg_m1 hm hh => ?_
  refine a_box rfl rfl rfl rfl hm trivial fun m2 w hg_m2 hm hh => ?_
  refine a_alloc rfl rfl z24 hm trivial fun m3 w hg_m3 hm hh => ?_
  refine rw_p rfl rfl (y_assign rfl) ?_
  refine rw_done ?_
  refine gn_sq ?_
  refine HW_seq rfl ?_
  refine HW_draw (.pure 0 (.pure 2 (.act2 1 (.pure 3 (.act 4 (.cut (.act 5 .done)))) 4 (.act 1 (.pure 3 (.cut (.act 5 .done))))))) No mix (by kernel_rfl) hm fun w hw hm0 hh => ?_
  have hm := hm0
  refine rw_p rfl rfl (y_loadA (s := 5) (vs := [_, _, _, _, _]) rfl ag24 (hm0.nd 2 rfl id) rfl) ?_
  refine rw_p rfl rfl (y_loadA (s := 5) (vs := [_, _, _, _, _]) rfl ag24 (hm0.nd 2 rfl id) rfl) ?_
  refine a_two ?_ ?_
  ·
    refine a_call rfl rfl rfl go58 (c_of _ _ _ _) fun v w hR => ?_
    obtain ⟨rfl, hE⟩ := hR
    refine ⟨hh.ext hE, ?_⟩
    replace hm := hm.ext hE
    replace hh := hh.ext hE
    refine rw_p rfl rfl (y_build (cs := [_, _, _, _, _, _, _]) z98 ft98 rfl rfl rfl rfl rfl) ?_
    refine a_alloc rfl rfl z98 hm hh fun m4 w hg_m4 hm hh => ?_
    refine a_cut ?_
    refine a_store rfl rfl rfl rfl sz98 rfl hm 0 rfl rfl fun w hm => ?_
    refine rw_done ?_
    refine gn_sq ?_
    refine HW_seq rfl ?_
    refine HW_seq rfl ?_
    refine HW_text (.pure 0 (.pure 1 (.pure 2 (.act 3 (.pure 4 .done))))) (by kernel_rfl) ?_
    refine rw_p rfl rfl (y_fieldAddr rfl fo98_0) ?_
    refine rw_p rfl rfl (y_loadA (s := 2) (vs := [_, _]) rfl ag87 (hm.nt 0 rfl) rfl) ?_
    refine rw_p rfl rfl (y_loadA (s := 2) (vs := [_, _]) rfl ag61 (hm.nt 2 rfl) rfl) ?_
    refine a_call rfl rfl rfl go69 (c_has _ _ _ _ _ (by omega) (by omega)) fun v w hR => ?_
    obtain ⟨rfl, hE⟩ := hR
    refine ⟨trivial, ?_⟩
    replace hm := hm.ext hE
    refine rw_p rfl rfl (y_not rfl) ?_
    refine rw_done ?_
    refine gn_sq ?_
    refine HW_cond rfl rfl (fun hc0 => ?_) (fun hc0 => ?_)
    ·
      have hno : ¬ (0 < b ∧ c.to ≤ a ∧ a + b ≤ c.to + Pl.clen c) := by simp [Pl.within] at hc0; omega
      have hp0 : Pl.cpart c a b = none := Pl.cpart_none hno
      have hpd : Pl.cpartD c a b = Pl.cm0 := by unfold Pl.cpartD; rw [hp0]; rfl
      refine HW_seq rfl ?_
      refine HW_text (.pure 0 (.act 1 (.pure 2 .done))) (by kernel_rfl) ?_
      refine rw_p rfl rfl (y_build (cs := [_, _, _, _, _]) z24 ft24 rfl rfl rfl rfl rfl) ?_
      refine a_store rfl rfl rfl rfl sz24 rfl hm 1 rfl rfl fun w hm => ?_
      refine rw_p rfl rfl (y_assign rfl) ?_
      refine rw_done ?_
      refine gn_sq ?_
      refine HW_ret rfl ?_
      refine gr_sq ?_
      refine toR (fin hret rfl (.cell rfl (run_loadVar_a (vs := [_, _, _, _, _]) ag24 (hm.get (k := 1) rfl) rfl) (.tmp rfl .nil)) .more ?_)
      exact ⟨none, 0, 0, 0, .gap, by rw [hpd, hp0]; rfl, by rw [hpd]; exact .nil _ _ _ _, (hm.drop (List.nil_sublist _)).gapIn⟩
    ·
      have hin : 0 < b ∧ c.to ≤ a ∧ a + b ≤ c.to + Pl.clen c := by simp [Pl.within] at hc0; omega
      have hp0 := Pl.cpart_some hin
      refine HW_skip rfl ?_
      refine gn_sq ?_
      refine HW_seq rfl ?_
      refine HW_text (.pure 0 (.pure 1 (.pure 2 (.pure 3 (.pure 4 (.pure 5 .done)))))) (by kernel_rfl) ?_
      refine rw_p rfl rfl (y_fieldAddr rfl fo61_0) ?_
      refine rw_p rfl rfl (y_load rfl sc3 (hm.nt 2 rfl) rfl) ?_
      refine rw_p rfl rfl (y_fieldAddr rfl fo24_1) ?_
      refine rw_p rfl rfl (y_load rfl sc3 (hm.nt 3 rfl) rfl) ?_
      refine rw_p rfl rfl (y_sub rfl rfl (i64w (by omega) (by omega))) ?_
      refine rw_p rfl rfl (y_assign rfl) ?_
      refine rw_done ?_
      refine gn_sq ?_
      refine HW_seq rfl ?_
      refine HW_seq rfl ?_
      refine HW_text (.pure 0 (.pure 1 (.pure 2 .done))) (by kernel_rfl) ?_
      refine rw_p rfl rfl (y_fieldAddr rfl fo24_0) ?_
      refine rw_p rfl rfl (y_load rfl sc3 (hm.nt 3 rfl) rfl) ?_
      refine rw_p rfl rfl (y_eq rfl rfl) ?_
      refine rw_done ?_
      refine gn_sq ?_
      refine HW_cond rfl rfl (fun hc1 => ?_) (fun hc1 => ?_)
      ·
        simp only [decide_eq_true_eq] at hc1
        rw [if_pos hc1] at hp0
        have hpd : Pl.cpartD c a b = ⟨1, a, c.fr + (a - c.to), b, []⟩ := by unfold Pl.cpartD; rw [hp0]; rfl
        refine HW_seq rfl ?_
        refine HW_text (.pure 0 (.pure 1 (.pure 2 (.pure 3 (.pure 4 (.pure 5 (.pure 6 (.pure 7 (.act 8 (.act 9 (.pure 10 .done))))))))))) (by kernel_rfl) ?_
        refine rw_p rfl rfl (y_fieldAddr rfl fo61_0) ?_
        refine rw_p rfl rfl (y_load rfl sc3 (hm.nt 2 rfl) rfl) ?_
        refine rw_p rfl rfl (y_fieldAddr rfl fo24_2) ?_
        refine rw_p rfl rfl (y_load rfl sc3 (hm.nt 3 rfl) rfl) ?_
        refine rw_p rfl rfl (y_move rfl) ?_
        refine rw_p rfl rfl (y_add rfl rfl (i64w (by omega) (by omega))) ?_
        refine rw_p rfl rfl (y_fieldAddr rfl fo61_1) ?_
        refine rw_p rfl rfl (y_load rfl sc3 (hm.nt 2 rfl) rfl) ?_
        refine a_call rfl rfl rfl go70 (c_copy _ _ _ _) fun v w hR => ?_
        obtain ⟨rfl, hE⟩ := hR
        refine ⟨trivial, ?_⟩
        replace hm := hm.ext hE
        refine a_store rfl rfl rfl rfl sz24 rfl hm 1 rfl rfl fun w hm => ?_
        refine rw_p rfl rfl (y_assign rfl) ?_
        refine rw_done ?_
        refine gn_sq ?_
        refine HW_ret rfl ?_
        refine gr_sq ?_
        refine toR (fin hret rfl (.cell rfl (run_loadVar_a (vs := [_, _, _, _, _]) ag24 (hm.get (k := 1) rfl) rfl) (.tmp rfl .nil)) .more ?_)
        exact ⟨none, 0, 0, 0, .gap, by rw [hpd, hp0]; rfl, by rw [hpd]; exact .nil _ _ _ _, (hm.drop (List.nil_sublist _)).gapIn⟩
      ·
        simp only [decide_eq_false_iff_not] at hc1
        rw [if_neg hc1] at hp0
        have hpd : Pl.cpartD c a b = ⟨2, a, 0, 0, (c.bs.drop (a - c.to).toNat).take b.toNat⟩ := by unfold Pl.cpartD; rw [hp0]; rfl
        have hcl : ((c.bs.drop (a - c.to).toNat).take b.toNat).length = b.toNat := by rw [List.length_take, List.length_drop]; omega
        have hcs := hr.sub (l := (a - c.to).toNat) (m := b.toNat) hle
        refine HW_skip rfl ?_
        refine gn_sq ?_
        refine HW_seq rfl ?_
        refine HW_draw (.pure 0 (.pure 1 (.pure 2 (.pure 3 (.pure 4 (.pure 5 (.pure 6 (.pure 7 (.pure 8 (.pure 9 (.act 10 (.cut (.act 11 (.act 12 (.pure 13 .done))))))))))))))) No mix (by kernel_rfl) hm fun w hw hm0 hh => ?_
        have hm := hm0
        refine rw_p rfl rfl (y_fieldAddr rfl fo61_0) ?_
        refine rw_p rfl rfl (y_load rfl sc3 (hm0.nd 2 rfl id) rfl) ?_
        refine rw_p rfl rfl (y_fieldAddr rfl fo24_4) ?_
        refine rw_p rfl rfl (y_load rfl sc22 (hm0.nd 3 rfl id) rfl) ?_
        refine rw_p rfl rfl (y_move rfl) ?_
        refine rw_p rfl rfl (y_move rfl) ?_
        refine rw_p rfl rfl (y_fieldAddr rfl fo61_1) ?_
        refine rw_p rfl rfl (y_load rfl sc3 (hm0.nd 2 rfl id) rfl) ?_
        refine rw_p rfl rfl (y_add rfl rfl (i64w (by omega) (by omega))) ?_
        refine rw_p rfl rfl (y_v (y_slice (ln := (a - c.to).toNat) (hn := ((a - c.to).toNat + b.toNat)) rfl sl22 ⟨_, congrArg (fun x => some (Value.int .i64 x)) (by omega)⟩ ⟨_, congrArg (fun x => some (Value.int .i64 x)) (by omega)⟩ (by omega) (by omega) (fun h => hsp (by omega))) (show _ = Value.slice (slp p cap (a - c.to).toNat 1) ((c.bs.drop (a - c.to).toNat).take b.toNat).length (cap - (a - c.to).toNat) by rw [hcl, Nat.add_sub_cancel_left])) ?_
        refine a_buildSlice (l := [_]) rfl rfl sl105 z22 rfl rfl rfl rfl rfl rfl rfl hm hh fun m5 w hg_m5 hm hh => ?_
        refine a_cut ?_
        refine a_call rfl rfl rfl go71 (c_literal a _ 1 [⟨slp p cap (a - c.to).toNat 1, cap - (a - c.to).toNat, (c.bs.drop (a - c.to).toNat).take b.toNat⟩] _ (Rd.row0 (hm.get (k := 0) rfl)) (by simp only [List.mem_singleton]; rintro _ rfl; exact hcs.ext0 hm.to) (by simp) (by simp only [List.flatMap_cons, List.flatMap_nil, List.append_nil]; omega)) fun v w hR => ?_
        obtain ⟨p_s, n_s, cap_s, g_s, b_s, rfl, ha_s, hmc⟩ := hR
        refine ⟨trivial, ?_⟩
        replace hm := hm.callN hmc
        refine a_store rfl rfl rfl rfl sz24 rfl hm 3 rfl rfl fun w hm => ?_
        refine rw_p rfl rfl (y_assign rfl) ?_
        refine rw_done ?_
        refine gn_sq ?_
        refine HW_ret rfl ?_
        refine toR (fin hret rfl (.cell rfl (run_loadVar_a (vs := [_, _, _, _, _]) ag24 (hm.get (k := 3) rfl) rfl) (.tmp rfl .nil)) .more ?_)
        exact ⟨_, _, _, _, _, by rw [hpd, hp0]; simp only [List.flatMap_cons, List.flatMap_nil, List.append_nil] at *; rfl, by rw [hpd]; simpa using ha_s, (hm.pick [0] rfl)⟩
  ·
    refine a_alloc rfl rfl z98 hm hh fun m4 w hg_m4 hm hh => ?_
    refine a_call rfl rfl rfl go58 (c_of _ _ _ _) fun v w hR => ?_
    obtain ⟨rfl, hE⟩ := hR
    refine ⟨hh.ext hE, ?_⟩
    replace hm := hm.ext hE
    replace hh := hh.ext hE
    refine rw_p rfl rfl (y_build (cs := [_, _, _, _, _, _, _]) z98 ft98 rfl rfl rfl rfl rfl) ?_
    refine a_cut ?_
    refine a_store rfl rfl rfl rfl sz98 rfl hm 0 rfl rfl fun w hm => ?_
    refine rw_done ?_
    refine gn_sq ?_
    refine HW_seq rfl ?_
    refine HW_seq rfl ?_
    refine HW_text (.pure 0 (.pure 1 (.pure 2 (.act 3 (.pure 4 .done))))) (by kernel_rfl) ?_
    refine rw_p rfl rfl (y_fieldAddr rfl fo98_0) ?_
    refine rw_p rfl rfl (y_loadA (s := 2) (vs := [_, _]) rfl ag87 (hm.nt 0 rfl) rfl) ?_
    refine rw_p rfl rfl (y_loadA (s := 2) (vs := [_, _]) rfl ag61 (hm.nt 2 rfl) rfl) ?_
    refine a_call rfl rfl rfl go69 (c_has _ _ _ _ _ (by omega) (by omega)) fun v w hR => ?_
    obtain ⟨rfl, hE⟩ := hR
    refine ⟨trivial, ?_⟩
    replace hm := hm.ext hE
    refine rw_p rfl rfl (y_not rfl) ?_
    refine rw_done ?_
    refine gn_sq ?_
    refine HW_cond rfl rfl (fun hc0 => ?_) (fun hc0 => ?_)
    ·
      have hno : ¬ (0 < b ∧ c.to ≤ a ∧ a + b ≤ c.to + Pl.clen c) := by simp [Pl.within] at hc0; omega
      have hp0 : Pl.cpart c a b = none := Pl.cpart_none hno
      have hpd : Pl.cpartD c a b = Pl.cm0 := by unfold Pl.cpartD; rw [hp0]; rfl
      refine HW_seq rfl ?_
      refine HW_text (.pure 0 (.act 1 (.pure 2 .done))) (by kernel_rfl) ?_
      refine rw_p rfl rfl (y_build (cs := [_, _, _, _, _]) z24 ft24 rfl rfl rfl rfl rfl) ?_
      refine a_store rfl rfl rfl rfl sz24 rfl hm 1 rfl rfl fun w hm => ?_
      refine rw_p rfl rfl (y_assign rfl) ?_
      refine rw_done ?_
      refine gn_sq ?_
      refine HW_ret rfl ?_
      refine gr_sq ?_
      refine toR (fin hret rfl (.cell rfl (run_loadVar_a (vs := [_, _, _, _, _]) ag24 (hm.get (k := 1) rfl) rfl) (.tmp rfl .nil)) .more ?_)
      exact ⟨none, 0, 0, 0, .gap, by rw [hpd, hp0]; rfl, by rw [hpd]; exact .nil _ _ _ _, (hm.drop (List.nil_sublist _)).gapIn⟩
    ·
      have hin : 0 < b ∧ c.to ≤ a ∧ a + b ≤ c.to + Pl.clen c := by simp [Pl.within] at hc0; omega
      have hp0 := Pl.cpart_some hin
      refine HW_skip rfl ?_
      refine gn_sq ?_
      refine HW_seq rfl ?_
      refine HW_text (.pure 0 (.pure 1 (.pure 2 (.pure 3 (.pure 4 (.pure 5 .done)))))) (by kernel_rfl) ?_
      refine rw_p rfl rfl (y_fieldAddr rfl fo61_0) ?_
      refine rw_p rfl rfl (y_load rfl sc3 (hm.nt 2 rfl) rfl) ?_
      refine rw_p rfl rfl (y_fieldAddr rfl fo24_1) ?_
      refine rw_p rfl rfl (y_load rfl sc3 (hm.nt 3 rfl) rfl) ?_
      refine rw_p rfl rfl (y_sub rfl rfl (i64w (by omega) (by omega))) ?_
      refine rw_p rfl rfl (y_assign rfl) ?_
      refine rw_done ?_
      refine gn_sq ?_
      refine HW_seq rfl ?_
      refine HW_seq rfl ?_
      refine HW_text (.pure 0 (.pure 1 (.pure 2 .done))) (by kernel_rfl) ?_
      refine rw_p rfl rfl (y_fieldAddr rfl fo24_0) ?_
      refine rw_p rfl rfl (y_load rfl sc3 (hm.nt 3 rfl) rfl) ?_
      refine rw_p rfl rfl (y_eq rfl rfl) ?_
      refine rw_done ?_
      refine gn_sq ?_
      refine HW_cond rfl rfl (fun hc1 => ?_) (fun hc1 => ?_)
      ·
        simp only [decide_eq_true_eq] at hc1
        rw [if_pos hc1] at hp0
        have hpd : Pl.cpartD c a b = ⟨1, a, c.fr + (a - c.to), b, []⟩ := by unfold Pl.cpartD; rw [hp0]; rfl
        refine HW_seq rfl ?_
        refine HW_text (.pure 0 (.pure 1 (.pure 2 (.pure 3 (.pure 4 (.pure 5 (.pure 6 (.pure 7 (.act 8 (.act 9 (.pure 10 .done))))))))))) (by kernel_rfl) ?_
        refine rw_p rfl rfl (y_fieldAddr rfl fo61_0) ?_
        refine rw_p rfl rfl (y_load rfl sc3 (hm.nt 2 rfl) rfl) ?_
        refine rw_p rfl rfl (y_fieldAddr rfl fo24_2) ?_
        refine rw_p rfl rfl (y_load rfl sc3 (hm.nt 3 rfl) rfl) ?_
        refine rw_p rfl rfl (y_move rfl) ?_
        refine rw_p rfl rfl (y_add rfl rfl (i64w (by omega) (by omega))) ?_
        refine rw_p rfl rfl (y_fieldAddr rfl fo61_1) ?_
        refine rw_p rfl rfl (y_load rfl sc3 (hm.nt 2 rfl) rfl) ?_
        refine a_call rfl rfl rfl go70 (c_copy _ _ _ _) fun v w hR => ?_
        obtain ⟨rfl, hE⟩ := hR
        refine ⟨trivial, ?_⟩
        replace hm := hm.ext hE
        refine a_store rfl rfl rfl rfl sz24 rfl hm 1 rfl rfl fun w hm => ?_
        refine rw_p rfl rfl (y_assign rfl) ?_
        refine rw_done ?_
        refine gn_sq ?_
        refine HW_ret rfl ?_
        refine gr_sq ?_
        refine toR (fin hret rfl (.cell rfl (run_loadVar_a (vs := [_, _, _, _, _]) ag24 (hm.get (k := 1) rfl) rfl) (.tmp rfl .nil)) .more ?_)
        exact ⟨none, 0, 0, 0, .gap, by rw [hpd, hp0]; rfl, by rw [hpd]; exact .nil _ _ _ _, (hm.drop (List.nil_sublist _)).gapIn⟩
      ·
        simp only [decide_eq_false_iff_not] at hc1
        rw [if_neg hc1] at hp0
        have hpd : Pl.cpartD c a b = ⟨2, a, 0, 0, (c.bs.drop (a - c.to).toNat).take b.toNat⟩ := by unfold Pl.cpartD; rw [hp0]; rfl
        have hcl : ((c.bs.drop (a - c.to).toNat).take b.toNat).length = b.toNat := by rw [List.length_take, List.length_drop]; omega
        have hcs := hr.sub (l := (a - c.to).toNat) (m := b.toNat) hle
        refine HW_skip rfl ?_
        refine gn_sq ?_
        refine HW_seq rfl ?_
        refine HW_draw (.pure 0 (.pure 1 (.pure 2 (.pure 3 (.pure 4 (.pure 5 (.pure 6 (.pure 7 (.pure 8 (.pure 9 (.act 10 (.cut (.act 11 (.act 12 (.pure 13 .done))))))))))))))) No mix (by kernel_rfl) hm fun w hw hm0 hh => ?_
        have hm := hm0
        refine rw_p rfl rfl (y_fieldAddr rfl fo61_0) ?_
        refine rw_p rfl rfl (y_load rfl sc3 (hm0.nd 2 rfl id) rfl) ?_
        refine rw_p rfl rfl (y_fieldAddr rfl fo24_4) ?_
        refine rw_p rfl rfl (y_load rfl sc22 (hm0.nd 3 rfl id) rfl) ?_
        refine rw_p rfl rfl (y_move rfl) ?_
        refine rw_p rfl rfl (y_move rfl) ?_
        refine rw_p rfl rfl (y_fieldAddr rfl fo61_1) ?_
        refine rw_p rfl rfl (y_load rfl sc3 (hm0.nd 2 rfl id) rfl) ?_
        refine rw_p rfl rfl (y_add rfl rfl (i64w (by omega) (by omega))) ?_
        refine rw_p rfl rfl (y_v (y_slice (ln := (a - c.to).toNat) (hn := ((a - c.to).toNat + b.toNat)) rfl sl22 ⟨_, congrArg (fun x => some (Value.int .i64 x)) (by omega)⟩ ⟨_, congrArg (fun x => some (Value.int .i64 x)) (by omega)⟩ (by omega) (by omega) (fun h => hsp (by omega))) (show _ = Value.slice (slp p cap (a - c.to).toNat 1) ((c.bs.drop (a - c.to).toNat).take b.toNat).length (cap - (a - c.to).toNat) by rw [hcl, Nat.add_sub_cancel_left])) ?_
        refine a_buildSlice (l := [_]) rfl rfl sl105 z22 rfl rfl rfl rfl rfl rfl rfl hm hh fun m5 w hg_m5 hm hh => ?_
        refine a_cut ?_
        refine a_call rfl rfl rfl go71 (c_literal a _ 1 [⟨slp p cap (a - c.to).toNat 1, cap - (a - c.to).toNat, (c.bs.drop (a - c.to).toNat).take b.toNat⟩] _ (Rd.row0 (hm.get (k := 0) rfl)) (by simp only [List.mem_singleton]; rintro _ rfl; exact hcs.ext0 hm.to) (by simp) (by simp only [List.flatMap_cons, List.flatMap_nil, List.append_nil]; omega)) fun v w hR => ?_
        obtain ⟨p_s, n_s, cap_s, g_s, b_s, rfl, ha_s, hmc⟩ := hR
        refine ⟨trivial, ?_⟩
        replace hm := hm.callN hmc
        refine a_store rfl rfl rfl rfl sz24 rfl hm 3 rfl rfl fun w hm => ?_
        refine rw_p rfl rfl (y_assign rfl) ?_
        refine rw_done ?_
        refine gn_sq ?_
        refine HW_ret rfl ?_
        refine toR (fin hret rfl (.cell rfl (run_loadVar_a (vs := [_, _, _, _, _]) ag24 (hm.get (k := 3) rfl) rfl) (.tmp rfl .nil)) .more ?_)
        exact ⟨_, _, _, _, _, by rw [hpd, hp0]; simp only [List.flatMap_cons, List.flatMap_nil, List.append_nil] at *; rfl, by rw [hpd]; simpa using ha_s, (hm.pick [0] rfl)⟩

theorem c_overlaps (c : Pl.Cm) (p : Option Addr) (cap : Nat) (w0 : World) (hc : Pl.ccheck c = 0) : C Try.prog 37 [.agg ⟨cmV c p c.bs.length cap⟩] w0 fun v w' => v = .bool (Pl.covl c) ∧ Ext No w0 w' := by
  have hk := Pl.ccheck_ok hc
  refine C_of Try.func37 rfl rfl rfl fun κ hret hnorm => ?_
  have hm := Mem.start w0
  refine HW_seq rfl ?_
  refine HW_text (.act 0 (.pure 1 .done)) (by kernel_rfl) ?_
  refine a_box rfl rfl rfl rfl hm trivial fun m1 w hg_m1 hm hh => ?_
  refine rw_p rfl rfl (y_assign rfl) ?_
  refine rw_done ?_
  refine gn_sq ?_
  refine HW_seq rfl ?_
  refine HW_text (.pure 0 (.act 1 (.pure 2 (.pure 3 (.pure 4 (.act 5 (.act 6 (.pure 7 .done)))))))) (by kernel_rfl) ?_
  refine rw_p rfl rfl (y_loadA (s := 5) (vs := [_, _, _, _, _]) rfl ag24 (hm.nt 0 rfl) rfl) ?_
  refine a_call rfl rfl rfl go51 (c_source _ _ _ _) fun v w hR => ?_
  obtain ⟨rfl, hE⟩ := hR
  refine ⟨trivial, ?_⟩
  replace hm := hm.ext hE
  refine rw_p rfl rfl (y_move rfl) ?_
  refine rw_p rfl rfl (y_extract rfl rfl) ?_
  refine rw_p rfl rfl (y_extract rfl rfl) ?_
  refine a_alloc rfl rfl z61 hm trivial fun m2 w hg_m2 hm hh => ?_
  refine a_store rfl rfl rfl rfl sz61 rfl hm 0 rfl rfl fun w hm => ?_
  refine rw_p rfl rfl (y_assign rfl) ?_
  refine rw_done ?_
  refine gn_sq ?_
  refine HW_seq rfl ?_
  refine HW_seq rfl ?_
  refine HW_text (.pure 0 (.pure 1 .done)) (by kernel_rfl) ?_
  refine rw_p rfl rfl (y_move rfl) ?_
  refine rw_p rfl rfl (y_not rfl) ?_
  refine rw_done ?_
  refine gn_sq ?_
  refine HW_cond rfl rfl (fun hc0 => ?_) (fun hc0 => ?_)
  ·
    have hk1 : ¬ c.k = 1 := by simpa using hc0
    refine HW_seq rfl ?_
    refine HW_text (.pure 0 .done) (by kernel_rfl) ?_
    refine rw_p rfl rfl (y_assign rfl) ?_
    refine rw_done ?_
    refine gn_sq ?_
    refine HW_ret rfl ?_
    refine gr_sq ?_
    refine toR (fin hret rfl (.tmp rfl .nil) .one ?_)
    exact ⟨by simp [Pl.covl, hk1], hm.to⟩
  ·
    have hk1 : c.k = 1 := by simpa using hc0
    have hsr : Pl.csrc c = (c.fr, c.ln) := by simp [Pl.csrc, hk1]
    refine HW_skip rfl ?_
    refine gn_sq ?_
    refine HW_seq rfl ?_
    refine HW_draw (.pure 0 (.pure 1 (.act2 2 (.act2 3 (.pure 4 (.pure 5 (.pure 6 (.act 7 (.act 8 (.pure 9 .done)))))) 7 (.act 3 (.pure 4 (.pure 5 (.pure 6 (.act 8 (.pure 9 .done))))))) 7 (.act 2 (.act 3 (.pure 4 (.pure 5 (.pure 6 (.act 8 (.pure 9 .done)))))))))) No mix (by kernel_rfl) hm fun w hw hm0 hh => ?_
    have hm := hm0
    refine rw_p rfl rfl (y_loadA (s := 2) (vs := [_, _]) rfl ag61 (hm0.nd 0 rfl id) rfl) ?_
    refine rw_p rfl rfl (y_loadA (s := 5) (vs := [_, _, _, _, _]) rfl ag24 (hm0.nd 1 rfl id) rfl) ?_
    refine a_two ?_ ?_
    ·
      refine a_call rfl rfl rfl go36 (c_target _ _ _ _) fun v w hR => ?_
      obtain ⟨rfl, hE⟩ := hR
      refine ⟨hh.ext hE, ?_⟩
      replace hm := hm.ext hE
      replace hh := hh.ext hE
      refine a_two ?_ ?_
      ·
        refine a_call rfl rfl rfl go59 (C.eqv (ext_overlap c.fr c.ln c.to (Pl.clen c) _ (by omega) (by omega)) (by rw [hsr])) fun v w hR => ?_
        obtain ⟨rfl, hE⟩ := hR
        refine ⟨hh.ext hE, ?_⟩
        replace hm := hm.ext hE
        replace hh := hh.ext hE
        refine rw_p rfl rfl (y_move rfl) ?_
        refine rw_p rfl rfl (y_extract rfl rfl) ?_
        refine rw_p rfl rfl (y_extract rfl rfl) ?_
        refine a_alloc rfl rfl z61 hm hh fun m3 w hg_m3 hm hh => ?_
        refine a_storeN rfl rfl rfl rfl sz61 rfl hm 0 rfl rfl hh (.inl hg_m3) fun w hm hh => ?_
        refine rw_p rfl rfl (y_assign rfl) ?_
        refine rw_done ?_
        refine gn_sq ?_
        refine HW_seq rfl ?_
        refine HW_text (.pure 0 (.pure 1 .done)) (by kernel_rfl) ?_
        refine rw_p rfl rfl (y_move rfl) ?_
        refine rw_p rfl rfl (y_assign rfl) ?_
        refine rw_done ?_
        refine gn_sq ?_
        refine HW_ret rfl ?_
        refine toR (fin hret rfl (.tmp rfl .nil) .one ?_)
        exact ⟨by have e : Pl.clen c = c.ln := by simp [Pl.clen, hk1]
                  simp [Pl.covl, hk1, e], hm.to⟩
      ·
        refine a_alloc rfl rfl z61 hm hh fun m3 w hg_m3 hm hh => ?_
        refine a_call rfl rfl rfl go59 (C.eqv (ext_overlap c.fr c.ln c.to (Pl.clen c) _ (by omega) (by omega)) (by rw [hsr])) fun v w hR => ?_
        obtain ⟨rfl, hE⟩ := hR
        refine ⟨hh.ext hE, ?_⟩
        replace hm := hm.ext hE
        replace hh := hh.ext hE
        refine rw_p rfl rfl (y_move rfl) ?_
        refine rw_p rfl rfl (y_extract rfl rfl) ?_
        refine rw_p rfl rfl (y_extract rfl rfl) ?_
        refine a_storeN rfl rfl rfl rfl sz61 rfl hm 0 rfl rfl hh (.inl hg_m3) fun w hm hh => ?_
        refine rw_p rfl rfl (y_assign rfl) ?_
        refine rw_done ?_
        refine gn_sq ?_
        refine HW_seq rfl ?_
        refine HW_text (.pure 0 (.pure 1 .done)) (by kernel_rfl) ?_
        refine rw_p rfl rfl (y_move rfl) ?_
        refine rw_p rfl rfl (y_assign rfl) ?_
        refine rw_done ?_
        refine gn_sq ?_
        refine HW_ret rfl ?_
        refine toR (fin hret rfl (.tmp rfl .nil) .one ?_)
        exact ⟨by have e : Pl.clen c = c.ln := by simp [Pl.clen, hk1]
                  simp [Pl.covl, hk1, e], hm.to⟩
    ·
      refine a_alloc rfl rfl z61 hm hh fun m3 w hg_m3 hm hh => ?_
      refine a_call rfl rfl rfl go36 (c_target _ _ _ _) fun v w hR => ?_
      obtain ⟨rfl, hE⟩ := hR
      refine ⟨hh.ext hE, ?_⟩
      replace hm := hm.ext hE
      replace hh := hh.ext hE
      refine a_call rfl rfl rfl go59 (C.eqv (ext_overlap c.fr c.ln c.to (Pl.clen c) _ (by omega) (by omega)) (by rw [hsr])) fun v w hR => ?_
      obtain ⟨rfl, hE⟩ := hR
      refine ⟨hh.ext hE, ?_⟩
      replace hm := hm.ext hE
      replace hh := hh.ext hE
      refine rw_p rfl rfl (y_move rfl) ?_
      refine rw_p rfl rfl (y_extract rfl rfl) ?_
      refine rw_p rfl rfl (y_extract rfl rfl) ?_
      refine a_storeN rfl rfl rfl rfl sz61 rfl hm 0 rfl rfl hh (.inl hg_m3) fun w hm hh => ?_
      refine rw_p rfl rfl (y_assign rfl) ?_
      refine rw_done ?_
      refine gn_sq ?_
      refine HW_seq rfl ?_
      refine HW_text (.pure 0 (.pure 1 .done)) (by kernel_rfl) ?_
      refine rw_p rfl rfl (y_move rfl) ?_
      refine rw_p rfl rfl (y_assign rfl) ?_
      refine rw_done ?_
      refine gn_sq ?_
      refine HW_ret rfl ?_
      refine toR (fin hret rfl (.tmp rfl .nil) .one ?_)
      exact ⟨by have e : Pl.clen c = c.ln := by simp [Pl.clen, hk1]
                simp [Pl.covl, hk1, e], hm.to⟩

theorem r4_overlaps (c : Pl.Cm) (p : Option Addr) (cap : Nat) (w0 : World) (hc : Pl.ccheck c = 0) : C Try.prog 38 [.agg ⟨cmV c p c.bs.length cap⟩] w0 fun v w' => v = .bool (Pl.covl c) ∧ Ext No w0 w' := by
  have hk := Pl.ccheck_ok hc
  refine C_of Try.func38 rfl rfl rfl fun κ hret hnorm => ?_
  have hm := Mem.start w0
  refine HW_seq rfl ?_
  refine HW_text (.act 0 (.pure 1 .done)) (by kernel_rfl) ?_
  refine a_box rfl rfl rfl rfl hm trivial fun m1 w hg_m1 hm hh => ?_
  refine rw_p rfl rfl (y_assign rfl) ?_
  refine rw_done ?_
  refine gn_sq ?_
  refine HW_seq rfl ?_
  by_cases hk1 : c.k = 1
  ·
    refine HW_draw (.pure 0 (.pure 1 (.pure 2 (.pure 3 (.pure 4 (.pure 6 (.act 5 (.cut (.act 7 (.act 8 (.pure 9 (.pure 10 (.pure 11 (.pure 12 .done)))))))))))))) No mix (by kernel_rfl) hm fun w hw hm0 hh => ?_
    have hm := hm0
    refine rw_p rfl rfl (y_fieldAddr rfl fo24_0) ?_
    refine rw_p rfl rfl (y_load rfl sc3 (hm0.nd 0 rfl id) rfl) ?_
    refine rw_p rfl rfl (y_as (c := true) (y_eq rfl rfl) (by simpa using hk1)) ?_
    refine rw_p rfl rfl (y_move rfl) ?_
    refine rw_p rfl rfl (y_loadA (s := 5) (vs := [_, _, _, _, _]) rfl ag24 (hm0.nd 0 rfl id) rfl) ?_
    refine rw_p rfl rfl (y_loadA (s := 5) (vs := [_, _, _, _, _]) rfl ag24 (hm0.nd 0 rfl id) rfl) ?_
    refine a_call rfl rfl rfl go41 (r4_source _ _ _ _) fun v w hR => ?_
    obtain ⟨rfl, hE⟩ := hR
    refine ⟨hh.ext hE, ?_⟩
    replace hm := hm.ext hE
    replace hh := hh.ext hE
    refine a_cut ?_
    refine a_call rfl rfl rfl go40 (r4_target _ _ _ _) fun v w hR => ?_
    obtain ⟨rfl, hE⟩ := hR
    refine ⟨trivial, ?_⟩
    replace hm := hm.ext hE
    refine a_call rfl rfl rfl go56 (r1_overlap c.fr c.ln c.to (Pl.clen c) _ (by omega) (by omega)) fun v w hR => ?_
    obtain ⟨rfl, hE⟩ := hR
    refine ⟨trivial, ?_⟩
    replace hm := hm.ext hE
    refine rw_p rfl rfl (y_fieldV rfl fv61_1 rfl) ?_
    refine rw_p rfl rfl (y_gt rfl rfl) ?_
    refine rw_p rfl rfl (y_pickT rfl rfl) ?_
    refine rw_p rfl rfl (y_assign rfl) ?_
    refine rw_done ?_
    refine gn_sq ?_
    refine HW_ret rfl ?_
    refine toR (fin hret rfl (.tmp rfl .nil) .one ?_)
    exact ⟨by rw [Pl.covl_ref hc]; simp [hk1], hm.to⟩
  ·
    refine HW_draw (.pure 0 (.pure 1 (.pure 2 (.pure 3 (.pure 4 (.pure 6 (.act 5 (.cut (.act 7 (.act 8 (.pure 9 (.pure 10 (.pure 11 (.pure 12 .done)))))))))))))) No mix (by kernel_rfl) hm fun w hw hm0 hh => ?_
    have hm := hm0
    refine rw_p rfl rfl (y_fieldAddr rfl fo24_0) ?_
    refine rw_p rfl rfl (y_load rfl sc3 (hm0.nd 0 rfl id) rfl) ?_
    refine rw_p rfl rfl (y_as (c := false) (y_eq rfl rfl) (by simpa using hk1)) ?_
    refine rw_p rfl rfl (y_move rfl) ?_
    refine rw_gf rfl rfl (by decide) rfl ?_
    refine rw_gf rfl rfl (by decide) rfl ?_
    refine a_gf rfl rfl (by decide) rfl hh ?_
    refine a_cut ?_
    refine a_gf rfl rfl (by decide) rfl trivial ?_
    refine a_gf rfl rfl (by decide) rfl trivial ?_
    refine rw_gf rfl rfl (by decide) rfl ?_
    refine rw_gf rfl rfl (by decide) rfl ?_
    refine rw_p rfl rfl (y_pickF rfl rfl) ?_
    refine rw_p rfl rfl (y_assign rfl) ?_
    refine rw_done ?_
    refine gn_sq ?_
    refine HW_ret rfl ?_
    refine toR (fin hret rfl (.tmp rfl .nil) .one ?_)
    exact ⟨by rw [Pl.covl_ref hc]; simp [hk1], hm.to⟩

set_option maxHeartbeats 400000 in
theorem r4_part (c : Pl.Cm) (p : Option Addr) (cap : Nat) (a b : Int) (w0 : World) (hc : Pl.ccheck c = 0) (hr : Rd w0 p (c.bs.flatMap encB)) (hle : c.bs.length ≤ cap) (hsp : cap ≠ 0 → ∀ ad, p = some ad → ad.spot = none) (hl : c.bs.length ≤ 140737488355328) (hin : 0 < b ∧ c.to ≤ a ∧ a + b ≤ c.to + Pl.clen c) : C Try.prog 44 [.agg ⟨cmV c p c.bs.length cap⟩, .agg ⟨[.int .i64 a, .int .i64 b]⟩] w0 fun v w' => ∃ p n cap g bb, v = .agg ⟨cmV (Pl.cpartD c a b) p n cap⟩ ∧ Acc 5 1 p n cap ((Pl.cpartD c a b).bs.flatMap encB) g bb ∧ Mem w0 w' No [(g, bb)] := by
  have hk := Pl.ccheck_ok hc
  have hp0 := Pl.cpart_some hin
  refine C_of Try.func44 rfl rfl rfl fun κ hret hnorm => ?_
  have hm := Mem.start w0
  refine HW_seq rfl ?_
  refine HW_text (.act 0 (.act 1 (.act 2 .done))) (by kernel_rfl) ?_
  refine a_box rfl rfl rfl rfl hm trivial fun m1 w hg_m1 hm hh => ?_
  refine a_box rfl rfl rfl rfl hm trivial fun m2 w hg_m2 hm hh => ?_
  refine a_alloc rfl rfl z24 hm trivial fun m3 w hg_m3 hm hh => ?_
  refine rw_done ?_
  refine gn_sq ?_
  refine HW_seq rfl ?_
  refine HW_text (.pure 0 (.pure 1 (.pure 2 (.pure 3 (.pure 4 (.pure 5 .done)))))) (by kernel_rfl) ?_
  refine rw_p rfl rfl (y_fieldAddr rfl fo61_0) ?_
  refine rw_p rfl rfl (y_load rfl sc3 (hm.nt 1 rfl) rfl) ?_
  refine rw_p rfl rfl (y_fieldAddr rfl fo24_1) ?_
  refine rw_p rfl rfl (y_load rfl sc3 (hm.nt 2 rfl) rfl) ?_
  refine rw_p rfl rfl (y_sub rfl rfl (i64w (by omega) (by omega))) ?_
  refine rw_p rfl rfl (y_assign rfl) ?_
  refine rw_done ?_
  refine gn_sq ?_
  refine HW_seq rfl ?_
  refine HW_seq rfl ?_
  refine HW_text (.pure 0 (.pure 1 (.pure 2 .done))) (by kernel_rfl) ?_
  refine rw_p rfl rfl (y_fieldAddr rfl fo24_0) ?_
  refine rw_p rfl rfl (y_load rfl sc3 (hm.nt 2 rfl) rfl) ?_
  refine rw_p rfl rfl (y_eq rfl rfl) ?_
  refine rw_done ?_
  refine gn_sq ?_
  refine HW_cond rfl rfl (fun hc0 => ?_) (fun hc0 => ?_)
  ·
    simp only [decide_eq_true_eq] at hc0
    rw [if_pos hc0] at hp0
    have hpd : Pl.cpartD c a b = ⟨1, a, c.fr + (a - c.to), b, []⟩ := by unfold Pl.cpartD; rw [hp0]; rfl
    refine HW_seq rfl ?_
    refine HW_text (.pure 0 (.pure 1 (.pure 2 (.pure 3 (.pure 4 (.pure 5 (.pure 6 (.pure 7 (.pure 8 (.act 9 .done)))))))))) (by kernel_rfl) ?_
    refine rw_p rfl rfl (y_fieldAddr rfl fo61_0) ?_
    refine rw_p rfl rfl (y_load rfl sc3 (hm.nt 1 rfl) rfl) ?_
    refine rw_p rfl rfl (y_fieldAddr rfl fo24_2) ?_
    refine rw_p rfl rfl (y_load rfl sc3 (hm.nt 2 rfl) rfl) ?_
    refine rw_p rfl rfl (y_move rfl) ?_
    refine rw_p rfl rfl (y_add rfl rfl (i64w (by omega) (by omega))) ?_
    refine rw_p rfl rfl (y_fieldAddr rfl fo61_1) ?_
    refine rw_p rfl rfl (y_load rfl sc3 (hm.nt 1 rfl) rfl) ?_
    refine rw_p rfl rfl (y_build (cs := [_, _, _, _, _]) z24 ft24 rfl rfl rfl rfl rfl) ?_
    refine a_store rfl rfl rfl rfl sz24 rfl hm 0 rfl rfl fun w hm => ?_
    refine rw_done ?_
    refine gn_sq ?_
    refine HW_ret rfl ?_
    refine gr_sq ?_
    refine toR (fin hret rfl (.cell rfl (run_loadVar_a (vs := [_, _, _, _, _]) ag24 (hm.get (k := 0) rfl) rfl) .nil) .one ?_)
    exact ⟨none, 0, 0, 0, .gap, by rw [hpd]; rfl, by rw [hpd]; exact .nil _ _ _ _, (hm.drop (List.nil_sublist _)).gapIn⟩
  ·
    simp only [decide_eq_false_iff_not] at hc0
    rw [if_neg hc0] at hp0
    have hpd : Pl.cpartD c a b = ⟨2, a, 0, 0, (c.bs.drop (a - c.to).toNat).take b.toNat⟩ := by unfold Pl.cpartD; rw [hp0]; rfl
    have hcl : ((c.bs.drop (a - c.to).toNat).take b.toNat).length = b.toNat := by rw [List.length_take, List.length_drop]; omega
    have hcs := hr.sub (l := (a - c.to).toNat) (m := b.toNat) hle
    refine HW_skip rfl ?_
    refine gn_sq ?_
    refine HW_seq rfl ?_
    refine HW_draw (.pure 0 (.pure 1 (.pure 3 (.pure 4 (.pure 5 (.pure 6 (.pure 7 (.pure 8 (.pure 9 (.pure 10 (.act 2 (.act 11 (.cut (.pure 12 (.act 13 .done))))))))))))))) No mix (by kernel_rfl) hm fun w hw hm0 hh => ?_
    have hm := hm0
    refine rw_p rfl rfl (y_fieldAddr rfl fo61_0) ?_
    refine rw_p rfl rfl (y_load rfl sc3 (hm0.nd 1 rfl id) rfl) ?_
    refine rw_p rfl rfl (y_fieldAddr rfl fo24_4) ?_
    refine rw_p rfl rfl (y_load rfl sc22 (hm0.nd 2 rfl id) rfl) ?_
    refine rw_p rfl rfl (y_move rfl) ?_
    refine rw_p rfl rfl (y_move rfl) ?_
    refine rw_p rfl rfl (y_fieldAddr rfl fo61_1) ?_
    refine rw_p rfl rfl (y_load rfl sc3 (hm0.nd 1 rfl id) rfl) ?_
    refine rw_p rfl rfl (y_add rfl rfl (i64w (by omega) (by omega))) ?_
    refine rw_p rfl rfl (y_v (y_slice (ln := (a - c.to).toNat) (hn := ((a - c.to).toNat + b.toNat)) rfl sl22 ⟨_, congrArg (fun x => some (Value.int .i64 x)) (by omega)⟩ ⟨_, congrArg (fun x => some (Value.int .i64 x)) (by omega)⟩ (by omega) (by omega) (fun h => hsp (by omega))) (show _ = Value.slice (slp p cap (a - c.to).toNat 1) ((c.bs.drop (a - c.to).toNat).take b.toNat).length (cap - (a - c.to).toNat) by rw [hcl, Nat.add_sub_cancel_left])) ?_
    refine a_buildSlice (l := []) rfl rfl sl22 z5 rfl rfl rfl rfl rfl rfl rfl hm hh fun m4 w hg_m4 hm hh => ?_
    refine a_appendN rfl rfl rfl rfl rfl rfl sl22 sl22 z5 rfl (oneB _) (hcs.ext0 hm.to) (lenB _) (Acc.row rfl) hm 0 rfl (by rw [hcl]; omega) (by rw [hcl]; omega) hh (fun _ => .inl hg_m4) fun p_s cap_s g_s b_s w _ ha_s hm hh hg_s => ?_
    refine a_cut ?_
    refine rw_p rfl rfl (y_build (cs := [_, _, _, _, _]) z24 ft24 rfl rfl rfl rfl rfl) ?_
    refine a_store rfl rfl rfl rfl sz24 rfl hm 1 rfl rfl fun w hm => ?_
    refine rw_done ?_
    refine gn_sq ?_
    refine HW_ret rfl ?_
    refine toR (fin hret rfl (.cell rfl (run_loadVar_a (vs := [_, _, _, _, _]) ag24 (hm.get (k := 1) rfl) rfl) .nil) .one ?_)
    exact ⟨_, _, _, _, _, by rw [hpd]; rfl, by rw [hpd]; simpa using ha_s, (hm.pick [0] rfl)⟩

end Go.Proofs.Ytcngaknlagocdaa
