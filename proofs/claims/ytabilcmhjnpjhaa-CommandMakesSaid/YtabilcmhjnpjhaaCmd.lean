/- Contracts of functions of the program: what each returns. Conditions: the hypotheses of each theorem. -/
import Derived.Test.YtabilcmhjnpjhaaByt
set_option linter.unusedVariables false
set_option linter.unusedSimpArgs false
namespace Go.Proofs.Ytabilcmhjnpjhaa
open Go Go.Cx

theorem bt25_9 : bts Try.prog 25 9 = true := by kernel_rfl
theorem it3 : intO Try.prog 3 = some .i64 := by kernel_rfl
theorem ag50 : aggS Try.prog 50 = some 2 := by kernel_rfl
theorem fo27_0 : fldO Try.prog 27 0 = some 0 := by kernel_rfl
theorem fo27_1 : fldO Try.prog 27 1 = some 1 := by kernel_rfl
theorem fo27_3 : fldO Try.prog 27 3 = some 3 := by kernel_rfl
theorem fo27_4 : fldO Try.prog 27 4 = some 4 := by kernel_rfl
theorem ft50 : fldT Try.prog 50 = some [(0, 2)] := by kernel_rfl
theorem sc25 : scal Try.prog 25 = true := by kernel_rfl
theorem sz50 : szO Try.prog 50 = some 2 := by kernel_rfl
theorem z50 : zer Try.prog 50 = some [.int .i64 0, .int .i64 0] := by kernel_rfl
theorem ag27 : aggS Try.prog 27 = some 5 := by kernel_rfl
theorem fv50_0 : fldV Try.prog 50 0 = some (0, 2, true) := by kernel_rfl
theorem go27 : isGo Try.prog 27 = true := by kernel_rfl
theorem fo27_2 : fldO Try.prog 27 2 = some 2 := by kernel_rfl
theorem ft27 : fldT Try.prog 27 = some [(0, 1), (1, 1), (2, 1), (3, 1), (4, 1)] := by kernel_rfl
theorem sz27 : szO Try.prog 27 = some 5 := by kernel_rfl
theorem z27 : zer Try.prog 27 = some [.int .i64 0, .int .i64 0, .int .i64 0, .int .i64 0, .slice none 0 0] := by kernel_rfl
theorem go29 : isGo Try.prog 29 = true := by kernel_rfl
theorem fo50_0 : fldO Try.prog 50 0 = some 0 := by kernel_rfl
theorem go28 : isGo Try.prog 28 = true := by kernel_rfl
theorem go15 : isGo Try.prog 15 = true := by kernel_rfl
theorem go17 : isGo Try.prog 17 = true := by kernel_rfl
theorem go23 : isGo Try.prog 23 = true := by kernel_rfl
theorem go33 : isGo Try.prog 33 = true := by kernel_rfl

theorem b_equal (p q : Option Addr) (c1 c2 : Nat) (xs ys : List UInt8) (w0 : World) (hx : Rd w0 p (xs.flatMap encB)) (hy : Rd w0 q (ys.flatMap encB)) : C Try.prog 33 [.slice p xs.length c1, .slice q ys.length c2] w0 fun v w' => v = .bool (decide (xs = ys)) ∧ Ext No w0 w' := by
  refine C_of Try.func33 rfl rfl rfl fun κ hret hnorm => ?_
  have hm := Mem.start w0
  refine HW_seq rfl ?_
  refine HW_text (.pure 0 .done) (by kernel_rfl) ?_
  refine rw_p rfl rfl (y_assign rfl) ?_
  refine rw_done ?_
  refine gn_sq ?_
  refine HW_seq rfl ?_
  refine HW_text (.pure 0 (.pure 1 (.pure 2 (.pure 3 (.pure 4 (.pure 5 .done)))))) (by kernel_rfl) ?_
  refine rw_p rfl rfl (y_move rfl) ?_
  refine rw_p rfl rfl (y_cvs rfl bt25_9 ((hx.ext0 hm.to).nt) rfl) ?_
  refine rw_p rfl rfl (y_move rfl) ?_
  refine rw_p rfl rfl (y_cvs rfl bt25_9 ((hy.ext0 hm.to).nt) rfl) ?_
  refine rw_p rfl rfl (y_seqB rfl rfl) ?_
  refine rw_p rfl rfl (y_assign rfl) ?_
  refine rw_done ?_
  refine gn_sq ?_
  refine HW_ret rfl ?_
  refine toR (fin hret rfl (.tmp rfl .nil) .one ?_)
  exact ⟨rfl, hm.to⟩

theorem grow_b0 (n : Nat) (w0 : World) (hn : n ≤ 140737488355328) : C Try.prog 36 [.slice none 0 0, .int .i64 n] w0 fun v w' => ∃ p cap g b, v = .slice p 0 cap ∧ Acc 5 1 p 0 cap [] g b ∧ Mem w0 w' No [(g, b)] := by
  refine C_of Try.func36 rfl rfl rfl fun κ hret hnorm => ?_
  have hm := Mem.start w0
  refine HW_seq rfl ?_
  refine HW_text (.pure 0 .done) (by kernel_rfl) ?_
  refine rw_p rfl rfl (y_assign rfl) ?_
  refine rw_done ?_
  refine gn_sq ?_
  refine HW_seq rfl ?_
  refine HW_seq rfl ?_
  refine HW_text (.pure 0 (.pure 1 .done)) (by kernel_rfl) ?_
  refine rw_p rfl rfl (y_move rfl) ?_
  refine rw_p rfl rfl (y_lt rfl rfl) ?_
  refine rw_done ?_
  refine gn_sq ?_
  refine HW_condF rfl rfl (decide_eq_false (by omega)) ?_
  refine HW_skip rfl ?_
  refine gn_sq ?_
  refine HW_seq rfl ?_
  refine HW_seq rfl ?_
  refine HW_text (.pure 0 (.pure 1 (.pure 2 (.pure 3 (.pure 4 (.pure 5 (.pure 6 (.pure 7 .done)))))))) (by kernel_rfl) ?_
  refine rw_p rfl rfl (y_move rfl) ?_
  refine rw_p rfl rfl (y_move rfl) ?_
  refine rw_p rfl rfl (y_cap rfl rfl sl25) ?_
  refine rw_p rfl rfl (y_move rfl) ?_
  refine rw_p rfl rfl (y_len rfl rfl sl25) ?_
  refine rw_p rfl rfl (y_sub rfl rfl (i64w (by omega) (by omega))) ?_
  refine rw_p rfl rfl (y_sub rfl rfl ((i64w (by simp <;> omega) (by simp <;> omega)).trans (by simp : (n : Int) - ((0 : Nat) - (0 : Nat)) = (n : Int)))) ?_
  refine rw_p rfl rfl (y_assign rfl) ?_
  refine rw_done ?_
  refine gn_sq ?_
  refine HW_seq rfl ?_
  refine HW_text (.pure 0 (.pure 1 .done)) (by kernel_rfl) ?_
  refine rw_p rfl rfl (y_move rfl) ?_
  refine rw_p rfl rfl (y_gt rfl rfl) ?_
  refine rw_done ?_
  refine gn_sq ?_
  refine HW_cond rfl rfl (fun hc1 => ?_) (fun hc1 => ?_)
  ·
    simp only [Bool.and_eq_true, Bool.or_eq_true, Bool.and_eq_false_iff, Bool.or_eq_false_iff, Bool.not_eq_true', Bool.not_eq_false', decide_eq_true_eq, decide_eq_false_iff_not] at hc1
    refine HW_text (.pure 0 (.pure 1 (.pure 2 (.pure 3 (.pure 4 (.act 5 (.pure 6 (.pure 7 (.pure 8 (.pure 9 .done)))))))))) (by kernel_rfl) ?_
    refine rw_p rfl rfl (y_move rfl) ?_
    refine rw_p rfl rfl (y_move rfl) ?_
    refine rw_p rfl rfl (y_cap rfl rfl sl25) ?_
    refine rw_p rfl rfl (y_v (y_slice (ln := 0) (hn := 0) rfl sl25 rfl ⟨_, rfl⟩ (Nat.le_refl _) (Nat.le_refl _) (fun h => absurd rfl h)) (show _ = Value.slice none 0 0 from rfl)) ?_
    replace hm := hm.gapIn
    have ha_z := Acc.nil 5 1 none 0
    refine rw_p rfl rfl (y_move rfl) ?_
    refine a_appendZ rfl rfl rfl rfl rfl rfl sl25 it3 z5 rfl rfl ha_z hm 0 rfl (by omega) (by omega) fun p_z cap_z g_z b_z w ha_z hm => ?_
    refine rw_p rfl rfl (y_move rfl) ?_
    refine rw_p rfl rfl (y_len rfl rfl sl25) ?_
    refine rw_p rfl rfl (y_v (y_slice (ln := 0) (hn := 0) rfl sl25 rfl ⟨_, rfl⟩ (Nat.le_refl _) (Nat.zero_le _) (fun h => ha_z.spot h)) (show _ = Value.slice p_z 0 cap_z by rw [slp_zero' ha_z.spot]; rfl)) ?_
    refine rw_p rfl rfl (y_assign rfl) ?_
    refine rw_done ?_
    refine gn_sq ?_
    refine HW_seq rfl ?_
    refine HW_text (.pure 0 (.pure 1 .done)) (by kernel_rfl) ?_
    refine rw_p rfl rfl (y_move rfl) ?_
    refine rw_p rfl rfl (y_assign rfl) ?_
    refine rw_done ?_
    refine gn_sq ?_
    refine HW_ret rfl ?_
    refine toR (fin hret rfl (.tmp rfl .nil) .one ?_)
    first | exact ⟨none, 0, 0, .gap, rfl, .nil _ _ _ _, hm.gapIn⟩ | exact ⟨p_z, cap_z, g_z, b_z, rfl, ha_z.cut0, hm⟩
  ·
    have hn0 : n = 0 := by simp at hc1; omega
    refine HW_skip rfl ?_
    refine gn_sq ?_
    refine HW_seq rfl ?_
    refine HW_text (.pure 0 (.pure 1 .done)) (by kernel_rfl) ?_
    refine rw_p rfl rfl (y_move rfl) ?_
    refine rw_p rfl rfl (y_assign rfl) ?_
    refine rw_done ?_
    refine gn_sq ?_
    refine HW_ret rfl ?_
    refine toR (fin hret rfl (.tmp rfl .nil) .one ?_)
    first | exact ⟨none, 0, 0, .gap, rfl, .nil _ _ _ _, hm.gapIn⟩ | exact ⟨p_z, cap_z, g_z, b_z, rfl, ha_z.cut0, hm⟩

theorem c_of (c : Pl.Cm) (p : Option Addr) (cap : Nat) (w0 : World) : C Try.prog 27 [.agg ⟨cmV c p c.bs.length cap⟩] w0 fun v w' => v = .agg ⟨[.int .i64 c.to, .int .i64 (Pl.clen c)]⟩ ∧ Ext No w0 w' := by
  refine C_of Try.func27 rfl rfl rfl fun κ hret hnorm => ?_
  have hm := Mem.start w0
  refine HW_seq rfl ?_
  refine HW_text (.act 0 (.act 1 .done)) (by kernel_rfl) ?_
  refine a_box rfl rfl rfl rfl hm trivial fun m1 w hg_m1 hm hh => ?_
  refine a_alloc rfl rfl z50 hm trivial fun m2 w hg_m2 hm hh => ?_
  refine rw_done ?_
  refine gn_sq ?_
  refine HW_seq rfl ?_
  refine HW_text (.pure 0 (.pure 1 (.pure 2 (.pure 3 .done)))) (by kernel_rfl) ?_
  refine rw_p rfl rfl (y_fieldAddr rfl fo27_4) ?_
  refine rw_p rfl rfl (y_load rfl sc25 (hm.nt 1 rfl) rfl) ?_
  refine rw_p rfl rfl (y_len rfl rfl sl25) ?_
  refine rw_p rfl rfl (y_assign rfl) ?_
  refine rw_done ?_
  refine gn_sq ?_
  refine HW_seq rfl ?_
  refine HW_seq rfl ?_
  refine HW_text (.pure 0 (.pure 1 (.pure 2 .done))) (by kernel_rfl) ?_
  refine rw_p rfl rfl (y_fieldAddr rfl fo27_0) ?_
  refine rw_p rfl rfl (y_load rfl sc3 (hm.nt 1 rfl) rfl) ?_
  refine rw_p rfl rfl (y_eq rfl rfl) ?_
  refine rw_done ?_
  refine gn_sq ?_
  refine HW_cond rfl rfl (fun hc0 => ?_) (fun hc0 => ?_)
  ·
    simp only [Bool.and_eq_true, Bool.or_eq_true, Bool.and_eq_false_iff, Bool.or_eq_false_iff, Bool.not_eq_true', Bool.not_eq_false', decide_eq_true_eq, decide_eq_false_iff_not] at hc0
    refine HW_text (.pure 0 (.pure 1 (.pure 2 .done))) (by kernel_rfl) ?_
    refine rw_p rfl rfl (y_fieldAddr rfl fo27_3) ?_
    refine rw_p rfl rfl (y_load rfl sc3 (hm.nt 1 rfl) rfl) ?_
    refine rw_p rfl rfl (y_assign rfl) ?_
    refine rw_done ?_
    refine gn_sq ?_
    refine HW_seq rfl ?_
    refine HW_text (.pure 0 (.pure 1 (.pure 2 (.pure 3 (.pure 4 (.act 5 .done)))))) (by kernel_rfl) ?_
    refine rw_p rfl rfl (y_fieldAddr rfl fo27_1) ?_
    refine rw_p rfl rfl (y_load rfl sc3 (hm.nt 1 rfl) rfl) ?_
    refine rw_p rfl rfl (y_move rfl) ?_
    refine rw_p rfl rfl (y_build (cs := [_, _]) z37 ft37 rfl rfl rfl rfl rfl) ?_
    refine rw_p rfl rfl (y_build (cs := [_, _]) z50 ft50 rfl rfl rfl rfl rfl) ?_
    refine a_store rfl rfl rfl rfl sz50 rfl hm 0 rfl rfl fun w hm => ?_
    refine rw_done ?_
    refine gn_sq ?_
    refine HW_ret rfl ?_
    refine toR (fin hret rfl (.cell rfl (run_loadVar_a (vs := [_, _]) ag50 (hm.get (k := 0) rfl) rfl) .nil) .one ?_)
    exact ⟨by simp [Pl.clen, hc0], hm.to⟩
  ·
    simp only [Bool.and_eq_true, Bool.or_eq_true, Bool.and_eq_false_iff, Bool.or_eq_false_iff, Bool.not_eq_true', Bool.not_eq_false', decide_eq_true_eq, decide_eq_false_iff_not] at hc0
    refine HW_skip rfl ?_
    refine gn_sq ?_
    refine HW_seq rfl ?_
    refine HW_text (.pure 0 (.pure 1 (.pure 2 (.pure 3 (.pure 4 (.act 5 .done)))))) (by kernel_rfl) ?_
    refine rw_p rfl rfl (y_fieldAddr rfl fo27_1) ?_
    refine rw_p rfl rfl (y_load rfl sc3 (hm.nt 1 rfl) rfl) ?_
    refine rw_p rfl rfl (y_move rfl) ?_
    refine rw_p rfl rfl (y_build (cs := [_, _]) z37 ft37 rfl rfl rfl rfl rfl) ?_
    refine rw_p rfl rfl (y_build (cs := [_, _]) z50 ft50 rfl rfl rfl rfl rfl) ?_
    refine a_store rfl rfl rfl rfl sz50 rfl hm 0 rfl rfl fun w hm => ?_
    refine rw_done ?_
    refine gn_sq ?_
    refine HW_ret rfl ?_
    refine toR (fin hret rfl (.cell rfl (run_loadVar_a (vs := [_, _]) ag50 (hm.get (k := 0) rfl) rfl) .nil) .one ?_)
    exact ⟨by simp [Pl.clen, hc0], hm.to⟩

theorem c_target (c : Pl.Cm) (p : Option Addr) (cap : Nat) (w0 : World) : C Try.prog 19 [.agg ⟨cmV c p c.bs.length cap⟩] w0 fun v w' => v = .agg ⟨[.int .i64 c.to, .int .i64 (Pl.clen c)]⟩ ∧ Ext No w0 w' := by
  refine C_of Try.func19 rfl rfl rfl fun κ hret hnorm => ?_
  have hm := Mem.start w0
  refine HW_seq rfl ?_
  refine HW_text (.act 0 (.act 1 .done)) (by kernel_rfl) ?_
  refine a_box rfl rfl rfl rfl hm trivial fun m1 w hg_m1 hm hh => ?_
  refine a_alloc rfl rfl z37 hm trivial fun m2 w hg_m2 hm hh => ?_
  refine rw_done ?_
  refine gn_sq ?_
  refine HW_seq rfl ?_
  refine HW_text (.pure 0 (.act 1 (.pure 2 (.act 3 .done)))) (by kernel_rfl) ?_
  refine rw_p rfl rfl (y_loadA (s := 5) (vs := [_, _, _, _, _]) rfl ag27 (hm.nt 1 rfl) rfl) ?_
  refine a_call rfl rfl rfl go27 (c_of _ _ _ _) fun v w hR => ?_
  obtain ⟨rfl, hE⟩ := hR
  refine ⟨trivial, ?_⟩
  replace hm := hm.ext hE
  refine rw_p rfl rfl (y_fieldV rfl fv50_0 rfl) ?_
  refine a_store rfl rfl rfl rfl sz37 rfl hm 0 rfl rfl fun w hm => ?_
  refine rw_done ?_
  refine gn_sq ?_
  refine HW_ret rfl ?_
  refine toR (fin hret rfl (.cell rfl (run_loadVar_a (vs := [_, _]) ag37 (hm.get (k := 0) rfl) rfl) .nil) .one ?_)
  exact ⟨rfl, hm.to⟩

theorem c_source (c : Pl.Cm) (p : Option Addr) (cap : Nat) (w0 : World) : C Try.prog 22 [.agg ⟨cmV c p c.bs.length cap⟩] w0 fun v w' => v = .tuple ⟨[.agg ⟨encE (Pl.csrc c)⟩, .bool (decide (c.k = 1))]⟩ ∧ Ext No w0 w' := by
  refine C_of Try.func22 rfl rfl rfl fun κ hret hnorm => ?_
  have hm := Mem.start w0
  refine HW_seq rfl ?_
  refine HW_text (.act 0 (.act 1 (.pure 2 .done))) (by kernel_rfl) ?_
  refine a_box rfl rfl rfl rfl hm trivial fun m1 w hg_m1 hm hh => ?_
  refine a_alloc rfl rfl z37 hm trivial fun m2 w hg_m2 hm hh => ?_
  refine rw_p rfl rfl (y_assign rfl) ?_
  refine rw_done ?_
  refine gn_sq ?_
  refine HW_seq rfl ?_
  refine HW_seq rfl ?_
  refine HW_text (.pure 0 (.pure 1 (.pure 2 .done))) (by kernel_rfl) ?_
  refine rw_p rfl rfl (y_fieldAddr rfl fo27_0) ?_
  refine rw_p rfl rfl (y_load rfl sc3 (hm.nt 1 rfl) rfl) ?_
  refine rw_p rfl rfl (y_ne rfl rfl) ?_
  refine rw_done ?_
  refine gn_sq ?_
  refine HW_cond rfl rfl (fun hc0 => ?_) (fun hc0 => ?_)
  ·
    simp only [Bool.and_eq_true, Bool.or_eq_true, Bool.and_eq_false_iff, Bool.or_eq_false_iff, Bool.not_eq_true', Bool.not_eq_false', decide_eq_true_eq, decide_eq_false_iff_not] at hc0
    refine HW_seq rfl ?_
    refine HW_text (.pure 0 (.act 1 (.pure 2 .done))) (by kernel_rfl) ?_
    refine rw_p rfl rfl (y_build (cs := [_, _]) z37 ft37 rfl rfl rfl rfl rfl) ?_
    refine a_store rfl rfl rfl rfl sz37 rfl hm 0 rfl rfl fun w hm => ?_
    refine rw_p rfl rfl (y_assign rfl) ?_
    refine rw_done ?_
    refine gn_sq ?_
    refine HW_ret rfl ?_
    refine gr_sq ?_
    refine toR (fin hret rfl (.cell rfl (run_loadVar_a (vs := [_, _]) ag37 (hm.get (k := 0) rfl) rfl) (.tmp rfl .nil)) .more ?_)
    exact ⟨by clear hret hnorm hm; by_cases hk : c.k = 1 <;> simp_all [Pl.csrc, encE], hm.to⟩
  ·
    simp only [Bool.and_eq_true, Bool.or_eq_true, Bool.and_eq_false_iff, Bool.or_eq_false_iff, Bool.not_eq_true', Bool.not_eq_false', decide_eq_true_eq, decide_eq_false_iff_not] at hc0
    refine HW_skip rfl ?_
    refine gn_sq ?_
    refine HW_seq rfl ?_
    refine HW_text (.pure 0 (.pure 1 (.pure 2 (.pure 3 (.pure 4 (.act 5 (.pure 6 .done))))))) (by kernel_rfl) ?_
    refine rw_p rfl rfl (y_fieldAddr rfl fo27_2) ?_
    refine rw_p rfl rfl (y_load rfl sc3 (hm.nt 1 rfl) rfl) ?_
    refine rw_p rfl rfl (y_fieldAddr rfl fo27_3) ?_
    refine rw_p rfl rfl (y_load rfl sc3 (hm.nt 1 rfl) rfl) ?_
    refine rw_p rfl rfl (y_build (cs := [_, _]) z37 ft37 rfl rfl rfl rfl rfl) ?_
    refine a_store rfl rfl rfl rfl sz37 rfl hm 0 rfl rfl fun w hm => ?_
    refine rw_p rfl rfl (y_assign rfl) ?_
    refine rw_done ?_
    refine gn_sq ?_
    refine HW_ret rfl ?_
    refine toR (fin hret rfl (.cell rfl (run_loadVar_a (vs := [_, _]) ag37 (hm.get (k := 0) rfl) rfl) (.tmp rfl .nil)) .more ?_)
    exact ⟨by clear hret hnorm hm; by_cases hk : c.k = 1 <;> simp_all [Pl.csrc, encE], hm.to⟩

theorem c_copy (a b c : Int) (w0 : World) : C Try.prog 10 [.int .i64 a, .int .i64 b, .int .i64 c] w0 fun v w' => v = .agg ⟨cmV ⟨1, a, b, c, []⟩ none 0 0⟩ ∧ Ext No w0 w' := by
  refine C_of Try.func10 rfl rfl rfl fun κ hret hnorm => ?_
  have hm := Mem.start w0
  refine HW_seq rfl ?_
  refine HW_text (.act 0 .done) (by kernel_rfl) ?_
  refine a_alloc rfl rfl z27 hm trivial fun m1 w hg_m1 hm hh => ?_
  refine rw_done ?_
  refine gn_sq ?_
  refine HW_seq rfl ?_
  refine HW_text (.pure 0 (.pure 1 (.pure 2 (.pure 3 (.act 4 .done))))) (by kernel_rfl) ?_
  refine rw_p rfl rfl (y_move rfl) ?_
  refine rw_p rfl rfl (y_move rfl) ?_
  refine rw_p rfl rfl (y_move rfl) ?_
  refine rw_p rfl rfl (y_build (cs := [_, _, _, _, _]) z27 ft27 rfl rfl rfl rfl rfl) ?_
  refine a_store rfl rfl rfl rfl sz27 rfl hm 0 rfl rfl fun w hm => ?_
  refine rw_done ?_
  refine gn_sq ?_
  refine HW_ret rfl ?_
  refine toR (fin hret rfl (.cell rfl (run_loadVar_a (vs := [_, _, _, _, _]) ag27 (hm.get (k := 0) rfl) rfl) .nil) .one ?_)
  exact ⟨rfl, hm.to⟩

theorem r4_len (c : Pl.Cm) (p : Option Addr) (cap : Nat) (w0 : World) : C Try.prog 29 [.agg ⟨cmV c p c.bs.length cap⟩] w0 fun v w' => v = .int .i64 (Pl.clen c) ∧ Ext No w0 w' := by
  refine C_of Try.func29 rfl rfl rfl fun κ hret hnorm => ?_
  have hm := Mem.start w0
  refine HW_seq rfl ?_
  refine HW_text (.act 0 (.pure 1 .done)) (by kernel_rfl) ?_
  refine a_box rfl rfl rfl rfl hm trivial fun m1 w hg_m1 hm hh => ?_
  refine rw_p rfl rfl (y_assign rfl) ?_
  refine rw_done ?_
  refine gn_sq ?_
  refine HW_seq rfl ?_
  refine HW_seq rfl ?_
  refine HW_text (.pure 0 (.pure 1 (.pure 2 .done))) (by kernel_rfl) ?_
  refine rw_p rfl rfl (y_fieldAddr rfl fo27_0) ?_
  refine rw_p rfl rfl (y_load rfl sc3 (hm.nt 0 rfl) rfl) ?_
  refine rw_p rfl rfl (y_eq rfl rfl) ?_
  refine rw_done ?_
  refine gn_sq ?_
  refine HW_cond rfl rfl (fun hc0 => ?_) (fun hc0 => ?_)
  ·
    simp only [Bool.and_eq_true, Bool.or_eq_true, Bool.and_eq_false_iff, Bool.or_eq_false_iff, Bool.not_eq_true', Bool.not_eq_false', decide_eq_true_eq, decide_eq_false_iff_not] at hc0
    refine HW_seq rfl ?_
    refine HW_text (.pure 0 (.pure 1 (.pure 2 .done))) (by kernel_rfl) ?_
    refine rw_p rfl rfl (y_fieldAddr rfl fo27_3) ?_
    refine rw_p rfl rfl (y_load rfl sc3 (hm.nt 0 rfl) rfl) ?_
    refine rw_p rfl rfl (y_assign rfl) ?_
    refine rw_done ?_
    refine gn_sq ?_
    refine HW_ret rfl ?_
    refine gr_sq ?_
    refine toR (fin hret rfl (.tmp rfl .nil) .one ?_)
    exact ⟨by simp [Pl.clen, hc0], hm.to⟩
  ·
    simp only [Bool.and_eq_true, Bool.or_eq_true, Bool.and_eq_false_iff, Bool.or_eq_false_iff, Bool.not_eq_true', Bool.not_eq_false', decide_eq_true_eq, decide_eq_false_iff_not] at hc0
    refine HW_skip rfl ?_
    refine gn_sq ?_
    refine HW_seq rfl ?_
    refine HW_text (.pure 0 (.pure 1 (.pure 2 (.pure 3 .done)))) (by kernel_rfl) ?_
    refine rw_p rfl rfl (y_fieldAddr rfl fo27_4) ?_
    refine rw_p rfl rfl (y_load rfl sc25 (hm.nt 0 rfl) rfl) ?_
    refine rw_p rfl rfl (y_len rfl rfl sl25) ?_
    refine rw_p rfl rfl (y_assign rfl) ?_
    refine rw_done ?_
    refine gn_sq ?_
    refine HW_ret rfl ?_
    refine toR (fin hret rfl (.tmp rfl .nil) .one ?_)
    exact ⟨by simp [Pl.clen, hc0], hm.to⟩

theorem r4_target (c : Pl.Cm) (p : Option Addr) (cap : Nat) (w0 : World) : C Try.prog 15 [.agg ⟨cmV c p c.bs.length cap⟩] w0 fun v w' => v = .agg ⟨[.int .i64 c.to, .int .i64 (Pl.clen c)]⟩ ∧ Ext No w0 w' := by
  refine C_of Try.func15 rfl rfl rfl fun κ hret hnorm => ?_
  have hm := Mem.start w0
  refine HW_seq rfl ?_
  refine HW_text (.act 0 (.act 1 .done)) (by kernel_rfl) ?_
  refine a_box rfl rfl rfl rfl hm trivial fun m1 w hg_m1 hm hh => ?_
  refine a_alloc rfl rfl z37 hm trivial fun m2 w hg_m2 hm hh => ?_
  refine rw_done ?_
  refine gn_sq ?_
  refine HW_seq rfl ?_
  refine HW_draw (.pure 0 (.pure 1 (.pure 2 (.act 3 (.pure 4 (.act 5 .done)))))) (fun j => j = m2) mix (by kernel_rfl) hm fun w hw hm0 hh => ?_
  have hm := hm0
  refine rw_p rfl rfl (y_fieldAddr rfl fo27_1) ?_
  refine rw_p rfl rfl (y_load rfl sc3 (hm0.nd 1 rfl (hm0.ne 1 0 rfl rfl rfl)) rfl) ?_
  refine rw_p rfl rfl (y_loadA (s := 5) (vs := [_, _, _, _, _]) rfl ag27 (hm0.nd 1 rfl (hm0.ne 1 0 rfl rfl rfl)) rfl) ?_
  refine a_call rfl rfl rfl go29 (r4_len _ _ _ _) fun v w hR => ?_
  obtain ⟨rfl, hE⟩ := hR
  refine ⟨hh.ext hE, ?_⟩
  replace hm := hm.ext hE
  replace hh := hh.ext hE
  refine rw_p rfl rfl (y_build (cs := [_, _]) z37 ft37 rfl rfl rfl rfl rfl) ?_
  refine a_storeN rfl rfl rfl rfl sz37 rfl hm 0 rfl rfl hh (.inr rfl) fun w hm hh => ?_
  refine rw_done ?_
  refine gn_sq ?_
  refine HW_ret rfl ?_
  refine toR (fin hret rfl (.cell rfl (run_loadVar_a (vs := [_, _]) ag37 (hm.get (k := 0) rfl) rfl) .nil) .one ?_)
  exact ⟨rfl, hm.to⟩

theorem r4_source (c : Pl.Cm) (p : Option Addr) (cap : Nat) (w0 : World) : C Try.prog 23 [.agg ⟨cmV c p c.bs.length cap⟩] w0 fun v w' => v = .agg ⟨[.int .i64 c.fr, .int .i64 c.ln]⟩ ∧ Ext No w0 w' := by
  refine C_of Try.func23 rfl rfl rfl fun κ hret hnorm => ?_
  have hm := Mem.start w0
  refine HW_seq rfl ?_
  refine HW_text (.act 0 (.act 1 .done)) (by kernel_rfl) ?_
  refine a_box rfl rfl rfl rfl hm trivial fun m1 w hg_m1 hm hh => ?_
  refine a_alloc rfl rfl z37 hm trivial fun m2 w hg_m2 hm hh => ?_
  refine rw_done ?_
  refine gn_sq ?_
  refine HW_seq rfl ?_
  refine HW_text (.pure 0 (.pure 1 (.pure 2 (.pure 3 (.pure 4 (.act 5 .done)))))) (by kernel_rfl) ?_
  refine rw_p rfl rfl (y_fieldAddr rfl fo27_2) ?_
  refine rw_p rfl rfl (y_load rfl sc3 (hm.nt 1 rfl) rfl) ?_
  refine rw_p rfl rfl (y_fieldAddr rfl fo27_3) ?_
  refine rw_p rfl rfl (y_load rfl sc3 (hm.nt 1 rfl) rfl) ?_
  refine rw_p rfl rfl (y_build (cs := [_, _]) z37 ft37 rfl rfl rfl rfl rfl) ?_
  refine a_store rfl rfl rfl rfl sz37 rfl hm 0 rfl rfl fun w hm => ?_
  refine rw_done ?_
  refine gn_sq ?_
  refine HW_ret rfl ?_
  refine toR (fin hret rfl (.cell rfl (run_loadVar_a (vs := [_, _]) ag37 (hm.get (k := 0) rfl) rfl) .nil) .one ?_)
  exact ⟨rfl, hm.to⟩

set_option maxHeartbeats 400000 in
theorem c_check (c : Pl.Cm) (p : Option Addr) (cap : Nat) (w0 : World) (hk : Pl.okCm c) (hl : c.bs.length ≤ 9223372036854775807) : C Try.prog 13 [.agg ⟨cmV c p c.bs.length cap⟩] w0 fun v w' => v = .int .i64 (Pl.ccheck c) ∧ Ext No w0 w' := by
  have hk1 := hk.1
  have hk2 := hk.2.1
  have hk3 := hk.2.2.1
  have hk4 := hk.2.2.2
  have hcl := Pl.clen_i64 hk hl
  refine C_of Try.func13 rfl rfl rfl fun κ hret hnorm => ?_
  have hm := Mem.start w0
  refine HW_seq rfl ?_
  refine HW_text (.act 0 (.pure 1 .done)) (by kernel_rfl) ?_
  refine a_box rfl rfl rfl rfl hm trivial fun m1 w hg_m1 hm hh => ?_
  refine rw_p rfl rfl (y_assign rfl) ?_
  refine rw_done ?_
  refine gn_sq ?_
  refine HW_seq rfl ?_
  refine HW_seq rfl ?_
  refine HW_text (.pure 0 (.pure 1 (.pure 2 (.pure 3 (.pure 4 (.pure 5 (.pure 6 (.pure 7 .done)))))))) (by kernel_rfl) ?_
  refine rw_p rfl rfl (y_fieldAddr rfl fo27_0) ?_
  refine rw_p rfl rfl (y_load rfl sc3 (hm.nt 0 rfl) rfl) ?_
  refine rw_p rfl rfl (y_ne rfl rfl) ?_
  refine rw_p rfl rfl (y_move rfl) ?_
  refine rw_g rfl rfl rfl (fun hc => (y_fieldAddr rfl fo27_0)) ?_
  refine rw_g rfl rfl rfl (fun hc => (y_load (gx hc rfl) sc3 (hm.nt 0 rfl) rfl)) ?_
  refine rw_g rfl rfl rfl (fun hc => (y_ne (gx hc rfl) rfl)) ?_
  refine rw_p rfl rfl (y_and rfl rfl rfl) ?_
  refine rw_done ?_
  refine gn_sq ?_
  refine HW_cond rfl rfl (fun hc0 => ?_) (fun hc0 => ?_)
  ·
    simp only [Bool.and_eq_true, Bool.or_eq_true, Bool.and_eq_false_iff, Bool.or_eq_false_iff, Bool.not_eq_true', Bool.not_eq_false', decide_eq_true_eq, decide_eq_false_iff_not] at hc0
    refine HW_seq rfl ?_
    refine HW_text (.pure 0 .done) (by kernel_rfl) ?_
    refine rw_p rfl rfl (y_assign rfl) ?_
    refine rw_done ?_
    refine gn_sq ?_
    refine HW_ret rfl ?_
    refine gr_sq ?_
    refine toR (fin hret rfl (.tmp rfl .nil) .one ?_)
    exact ⟨congrArg (Value.int .i64) (by clear hret hnorm hm; grind [Pl.ccheck]), hm.to⟩
  ·
    simp only [Bool.and_eq_true, Bool.or_eq_true, Bool.and_eq_false_iff, Bool.or_eq_false_iff, Bool.not_eq_true', Bool.not_eq_false', decide_eq_true_eq, decide_eq_false_iff_not] at hc0
    refine HW_skip rfl ?_
    refine gn_sq ?_
    refine HW_seq rfl ?_
    refine HW_text (.pure 0 (.act 1 (.act 2 (.act 3 .done)))) (by kernel_rfl) ?_
    refine rw_p rfl rfl (y_loadA (s := 5) (vs := [_, _, _, _, _]) rfl ag27 (hm.nt 0 rfl) rfl) ?_
    refine a_call rfl rfl rfl go27 (c_of _ _ _ _) fun v w hR => ?_
    obtain ⟨rfl, hE⟩ := hR
    refine ⟨trivial, ?_⟩
    replace hm := hm.ext hE
    refine a_alloc rfl rfl z50 hm trivial fun m2 w hg_m2 hm hh => ?_
    refine a_store rfl rfl rfl rfl sz50 rfl hm 0 rfl rfl fun w hm => ?_
    refine rw_done ?_
    refine gn_sq ?_
    refine HW_seq rfl ?_
    refine HW_seq rfl ?_
    refine HW_text (.pure 0 (.pure 1 (.pure 2 (.pure 3 .done)))) (by kernel_rfl) ?_
    refine rw_p rfl rfl (y_fieldAddr rfl fo50_0) ?_
    refine rw_p rfl rfl (y_fieldAddr rfl fo37_1) ?_
    refine rw_p rfl rfl (y_load rfl sc3 (hm.nt 0 rfl) rfl) ?_
    refine rw_p rfl rfl (y_eq rfl rfl) ?_
    refine rw_done ?_
    refine gn_sq ?_
    refine HW_cond rfl rfl (fun hc1 => ?_) (fun hc1 => ?_)
    ·
      simp only [Bool.and_eq_true, Bool.or_eq_true, Bool.and_eq_false_iff, Bool.or_eq_false_iff, Bool.not_eq_true', Bool.not_eq_false', decide_eq_true_eq, decide_eq_false_iff_not] at hc1
      refine HW_seq rfl ?_
      refine HW_text (.pure 0 .done) (by kernel_rfl) ?_
      refine rw_p rfl rfl (y_assign rfl) ?_
      refine rw_done ?_
      refine gn_sq ?_
      refine HW_ret rfl ?_
      refine gr_sq ?_
      refine toR (fin hret rfl (.tmp rfl .nil) .one ?_)
      exact ⟨congrArg (Value.int .i64) (by clear hret hnorm hm; grind [Pl.ccheck]), hm.to⟩
    ·
      simp only [Bool.and_eq_true, Bool.or_eq_true, Bool.and_eq_false_iff, Bool.or_eq_false_iff, Bool.not_eq_true', Bool.not_eq_false', decide_eq_true_eq, decide_eq_false_iff_not] at hc1
      refine HW_skip rfl ?_
      refine gn_sq ?_
      refine HW_seq rfl ?_
      refine HW_text (.pure 0 (.pure 1 (.act 2 (.pure 3 .done)))) (by kernel_rfl) ?_
      refine rw_p rfl rfl (y_fieldAddr rfl fo50_0) ?_
      refine rw_p rfl rfl (y_loadA (s := 2) (vs := [_, _]) rfl ag37 (hm.nt 0 rfl) rfl) ?_
      refine a_call rfl rfl rfl go28 (ext_valid _ _ _ (by omega) (by omega)) fun v w hR => ?_
      obtain ⟨rfl, hE⟩ := hR
      refine ⟨trivial, ?_⟩
      replace hm := hm.ext hE
      refine rw_p rfl rfl (y_assign rfl) ?_
      refine rw_done ?_
      refine gn_sq ?_
      refine HW_seq rfl ?_
      refine HW_seq rfl ?_
      refine HW_text (.pure 0 (.pure 1 (.pure 2 .done))) (by kernel_rfl) ?_
      refine rw_p rfl rfl (y_fieldAddr rfl fo27_0) ?_
      refine rw_p rfl rfl (y_load rfl sc3 (hm.nt 1 rfl) rfl) ?_
      refine rw_p rfl rfl (y_eq rfl rfl) ?_
      refine rw_done ?_
      refine gn_sq ?_
      refine HW_cond rfl rfl (fun hc2 => ?_) (fun hc2 => ?_)
      ·
        simp only [Bool.and_eq_true, Bool.or_eq_true, Bool.and_eq_false_iff, Bool.or_eq_false_iff, Bool.not_eq_true', Bool.not_eq_false', decide_eq_true_eq, decide_eq_false_iff_not] at hc2
        refine HW_text (.pure 0 (.pure 1 (.pure 2 (.pure 3 (.pure 4 (.pure 5 (.pure 6 (.pure 7 (.pure 8 (.pure 9 (.pure 10 (.pure 11 (.pure 12 (.act 13 (.pure 14 (.pure 15 .done)))))))))))))))) (by kernel_rfl) ?_
        refine rw_p rfl rfl (y_move rfl) ?_
        refine rw_p rfl rfl (y_move rfl) ?_
        refine rw_g rfl rfl rfl (fun hc => (y_fieldAddr rfl fo27_4)) ?_
        refine rw_g rfl rfl rfl (fun hc => (y_load (gx hc rfl) sc25 (hm.nt 1 rfl) rfl)) ?_
        refine rw_g rfl rfl rfl (fun hc => (y_len (gx hc rfl) rfl sl25)) ?_
        refine rw_g rfl rfl rfl (fun hc => (y_eq (gx hc rfl) rfl)) ?_
        refine rw_p rfl rfl (y_and rfl rfl rfl) ?_
        refine rw_p rfl rfl (y_move rfl) ?_
        refine rw_g rfl rfl rfl (fun hc => (y_fieldAddr rfl fo27_2)) ?_
        refine rw_g rfl rfl rfl (fun hc => (y_load (gx hc rfl) sc3 (hm.nt 1 rfl) rfl)) ?_
        refine rw_g rfl rfl rfl (fun hc => (y_fieldAddr rfl fo27_3)) ?_
        refine rw_g rfl rfl rfl (fun hc => (y_load (gx hc rfl) sc3 (hm.nt 1 rfl) rfl)) ?_
        refine rw_g rfl rfl rfl (fun hc => (y_build (cs := [_, _]) z37 ft37 rfl rfl (evs_c (gx hc rfl) (evs_c (gx hc rfl) evs_n)) rfl rfl)) ?_
        refine a_callG rfl rfl rfl (fun hc => (evs_c (gx hc rfl) evs_n)) go28 (fun hc => (ext_valid _ _ _ (by omega) (by omega))) trivial fun w hE hh => ?_
        replace hm := hm.ext hE
        refine rw_p rfl rfl (y_and rfl rfl rfl) ?_
        refine rw_p rfl rfl (y_assign rfl) ?_
        refine rw_done ?_
        refine gn_sq ?_
        refine HW_seq rfl ?_
        refine HW_seq rfl ?_
        refine HW_text (.pure 0 (.pure 1 .done)) (by kernel_rfl) ?_
        refine rw_p rfl rfl (y_move rfl) ?_
        refine rw_p rfl rfl (y_not rfl) ?_
        refine rw_done ?_
        refine gn_sq ?_
        refine HW_cond rfl rfl (fun hc3 => ?_) (fun hc3 => ?_)
        ·
          simp only [Bool.and_eq_true, Bool.or_eq_true, Bool.and_eq_false_iff, Bool.or_eq_false_iff, Bool.not_eq_true', Bool.not_eq_false', decide_eq_true_eq, decide_eq_false_iff_not] at hc3
          refine HW_seq rfl ?_
          refine HW_text (.pure 0 .done) (by kernel_rfl) ?_
          refine rw_p rfl rfl (y_assign rfl) ?_
          refine rw_done ?_
          refine gn_sq ?_
          refine HW_ret rfl ?_
          refine gr_sq ?_
          refine toR (fin hret rfl (.tmp rfl .nil) .one ?_)
          exact ⟨congrArg (Value.int .i64) (by clear hret hnorm hm; grind [Pl.ccheck]), hm.to⟩
        ·
          simp only [Bool.and_eq_true, Bool.or_eq_true, Bool.and_eq_false_iff, Bool.or_eq_false_iff, Bool.not_eq_true', Bool.not_eq_false', decide_eq_true_eq, decide_eq_false_iff_not] at hc3
          refine HW_skip rfl ?_
          refine gn_sq ?_
          refine HW_seq rfl ?_
          refine HW_text (.pure 0 .done) (by kernel_rfl) ?_
          refine rw_p rfl rfl (y_assign rfl) ?_
          refine rw_done ?_
          refine gn_sq ?_
          refine HW_ret rfl ?_
          refine toR (fin hret rfl (.tmp rfl .nil) .one ?_)
          exact ⟨congrArg (Value.int .i64) (by clear hret hnorm hm; grind [Pl.ccheck]), hm.to⟩
      ·
        simp only [Bool.and_eq_true, Bool.or_eq_true, Bool.and_eq_false_iff, Bool.or_eq_false_iff, Bool.not_eq_true', Bool.not_eq_false', decide_eq_true_eq, decide_eq_false_iff_not] at hc2
        refine HW_text (.pure 0 (.pure 1 (.pure 2 (.pure 3 (.pure 4 (.pure 5 (.pure 6 (.pure 7 (.pure 8 (.pure 9 (.pure 10 (.pure 11 .done)))))))))))) (by kernel_rfl) ?_
        refine rw_p rfl rfl (y_move rfl) ?_
        refine rw_p rfl rfl (y_move rfl) ?_
        refine rw_g rfl rfl rfl (fun hc => (y_fieldAddr rfl fo27_2)) ?_
        refine rw_g rfl rfl rfl (fun hc => (y_load (gx hc rfl) sc3 (hm.nt 1 rfl) rfl)) ?_
        refine rw_g rfl rfl rfl (fun hc => (y_eq (gx hc rfl) rfl)) ?_
        refine rw_p rfl rfl (y_and rfl rfl rfl) ?_
        refine rw_p rfl rfl (y_move rfl) ?_
        refine rw_g rfl rfl rfl (fun hc => (y_fieldAddr rfl fo27_3)) ?_
        refine rw_g rfl rfl rfl (fun hc => (y_load (gx hc rfl) sc3 (hm.nt 1 rfl) rfl)) ?_
        refine rw_g rfl rfl rfl (fun hc => (y_eq (gx hc rfl) rfl)) ?_
        refine rw_p rfl rfl (y_and rfl rfl rfl) ?_
        refine rw_p rfl rfl (y_assign rfl) ?_
        refine rw_done ?_
        refine gn_sq ?_
        refine HW_seq rfl ?_
        refine HW_seq rfl ?_
        refine HW_text (.pure 0 (.pure 1 .done)) (by kernel_rfl) ?_
        refine rw_p rfl rfl (y_move rfl) ?_
        refine rw_p rfl rfl (y_not rfl) ?_
        refine rw_done ?_
        refine gn_sq ?_
        refine HW_cond rfl rfl (fun hc3 => ?_) (fun hc3 => ?_)
        ·
          simp only [Bool.and_eq_true, Bool.or_eq_true, Bool.and_eq_false_iff, Bool.or_eq_false_iff, Bool.not_eq_true', Bool.not_eq_false', decide_eq_true_eq, decide_eq_false_iff_not] at hc3
          refine HW_seq rfl ?_
          refine HW_text (.pure 0 .done) (by kernel_rfl) ?_
          refine rw_p rfl rfl (y_assign rfl) ?_
          refine rw_done ?_
          refine gn_sq ?_
          refine HW_ret rfl ?_
          refine gr_sq ?_
          refine toR (fin hret rfl (.tmp rfl .nil) .one ?_)
          exact ⟨congrArg (Value.int .i64) (by clear hret hnorm hm; grind [Pl.ccheck]), hm.to⟩
        ·
          simp only [Bool.and_eq_true, Bool.or_eq_true, Bool.and_eq_false_iff, Bool.or_eq_false_iff, Bool.not_eq_true', Bool.not_eq_false', decide_eq_true_eq, decide_eq_false_iff_not] at hc3
          refine HW_skip rfl ?_
          refine gn_sq ?_
          refine HW_seq rfl ?_
          refine HW_text (.pure 0 .done) (by kernel_rfl) ?_
          refine rw_p rfl rfl (y_assign rfl) ?_
          refine rw_done ?_
          refine gn_sq ?_
          refine HW_ret rfl ?_
          refine toR (fin hret rfl (.tmp rfl .nil) .one ?_)
          exact ⟨congrArg (Value.int .i64) (by clear hret hnorm hm; grind [Pl.ccheck]), hm.to⟩

set_option maxHeartbeats 400000 in
theorem r4_check (c : Pl.Cm) (p : Option Addr) (cap : Nat) (w0 : World) (hk : Pl.okCm c) (hl : c.bs.length ≤ 9223372036854775807) : C Try.prog 14 [.agg ⟨cmV c p c.bs.length cap⟩] w0 fun v w' => v = .int .i64 (Pl.ccheck c) ∧ Ext No w0 w' := by
  have hk1 := hk.1
  have hk2 := hk.2.1
  have hk3 := hk.2.2.1
  have hk4 := hk.2.2.2
  have hcl := Pl.clen_i64 hk hl
  refine C_of Try.func14 rfl rfl rfl fun κ hret hnorm => ?_
  have hm := Mem.start w0
  refine HW_seq rfl ?_
  refine HW_text (.act 0 (.pure 1 .done)) (by kernel_rfl) ?_
  refine a_box rfl rfl rfl rfl hm trivial fun m1 w hg_m1 hm hh => ?_
  refine rw_p rfl rfl (y_assign rfl) ?_
  refine rw_done ?_
  refine gn_sq ?_
  refine HW_seq rfl ?_
  refine HW_seq rfl ?_
  refine HW_text (.pure 0 (.pure 1 (.pure 2 (.pure 3 (.pure 4 (.pure 5 (.pure 6 (.pure 7 .done)))))))) (by kernel_rfl) ?_
  refine rw_p rfl rfl (y_fieldAddr rfl fo27_0) ?_
  refine rw_p rfl rfl (y_load rfl sc3 (hm.nt 0 rfl) rfl) ?_
  refine rw_p rfl rfl (y_ne rfl rfl) ?_
  refine rw_p rfl rfl (y_move rfl) ?_
  refine rw_g rfl rfl rfl (fun hc => (y_fieldAddr rfl fo27_0)) ?_
  refine rw_g rfl rfl rfl (fun hc => (y_load (gx hc rfl) sc3 (hm.nt 0 rfl) rfl)) ?_
  refine rw_g rfl rfl rfl (fun hc => (y_ne (gx hc rfl) rfl)) ?_
  refine rw_p rfl rfl (y_and rfl rfl rfl) ?_
  refine rw_done ?_
  refine gn_sq ?_
  refine HW_cond rfl rfl (fun hc0 => ?_) (fun hc0 => ?_)
  ·
    simp only [Bool.and_eq_true, Bool.or_eq_true, Bool.and_eq_false_iff, Bool.or_eq_false_iff, Bool.not_eq_true', Bool.not_eq_false', decide_eq_true_eq, decide_eq_false_iff_not] at hc0
    refine HW_seq rfl ?_
    refine HW_text (.pure 0 .done) (by kernel_rfl) ?_
    refine rw_p rfl rfl (y_assign rfl) ?_
    refine rw_done ?_
    refine gn_sq ?_
    refine HW_ret rfl ?_
    refine gr_sq ?_
    refine toR (fin hret rfl (.tmp rfl .nil) .one ?_)
    exact ⟨congrArg (Value.int .i64) (by clear hret hnorm hm; grind [Pl.ccheck]), hm.to⟩
  ·
    simp only [Bool.and_eq_true, Bool.or_eq_true, Bool.and_eq_false_iff, Bool.or_eq_false_iff, Bool.not_eq_true', Bool.not_eq_false', decide_eq_true_eq, decide_eq_false_iff_not] at hc0
    refine HW_skip rfl ?_
    refine gn_sq ?_
    refine HW_seq rfl ?_
    refine HW_seq rfl ?_
    refine HW_text (.pure 0 (.act 1 (.pure 2 .done))) (by kernel_rfl) ?_
    refine rw_p rfl rfl (y_loadA (s := 5) (vs := [_, _, _, _, _]) rfl ag27 (hm.nt 0 rfl) rfl) ?_
    refine a_call rfl rfl rfl go29 (r4_len _ _ _ _) fun v w hR => ?_
    obtain ⟨rfl, hE⟩ := hR
    refine ⟨trivial, ?_⟩
    replace hm := hm.ext hE
    refine rw_p rfl rfl (y_eq rfl rfl) ?_
    refine rw_done ?_
    refine gn_sq ?_
    refine HW_cond rfl rfl (fun hc1 => ?_) (fun hc1 => ?_)
    ·
      simp only [Bool.and_eq_true, Bool.or_eq_true, Bool.and_eq_false_iff, Bool.or_eq_false_iff, Bool.not_eq_true', Bool.not_eq_false', decide_eq_true_eq, decide_eq_false_iff_not] at hc1
      refine HW_seq rfl ?_
      refine HW_text (.pure 0 .done) (by kernel_rfl) ?_
      refine rw_p rfl rfl (y_assign rfl) ?_
      refine rw_done ?_
      refine gn_sq ?_
      refine HW_ret rfl ?_
      refine gr_sq ?_
      refine toR (fin hret rfl (.tmp rfl .nil) .one ?_)
      exact ⟨congrArg (Value.int .i64) (by clear hret hnorm hm; grind [Pl.ccheck]), hm.to⟩
    ·
      simp only [Bool.and_eq_true, Bool.or_eq_true, Bool.and_eq_false_iff, Bool.or_eq_false_iff, Bool.not_eq_true', Bool.not_eq_false', decide_eq_true_eq, decide_eq_false_iff_not] at hc1
      refine HW_skip rfl ?_
      refine gn_sq ?_
      refine HW_seq rfl ?_
      refine HW_seq rfl ?_
      refine HW_text (.pure 0 (.act 1 (.act 2 (.pure 3 .done)))) (by kernel_rfl) ?_
      refine rw_p rfl rfl (y_loadA (s := 5) (vs := [_, _, _, _, _]) rfl ag27 (hm.nt 0 rfl) rfl) ?_
      refine a_call rfl rfl rfl go15 (r4_target _ _ _ _) fun v w hR => ?_
      obtain ⟨rfl, hE⟩ := hR
      refine ⟨trivial, ?_⟩
      replace hm := hm.ext hE
      refine a_call rfl rfl rfl go17 (r1_valid _ _ _ (by omega) (by omega)) fun v w hR => ?_
      obtain ⟨rfl, hE⟩ := hR
      refine ⟨trivial, ?_⟩
      replace hm := hm.ext hE
      refine rw_p rfl rfl (y_not rfl) ?_
      refine rw_done ?_
      refine gn_sq ?_
      refine HW_cond rfl rfl (fun hc2 => ?_) (fun hc2 => ?_)
      ·
        simp only [Bool.and_eq_true, Bool.or_eq_true, Bool.and_eq_false_iff, Bool.or_eq_false_iff, Bool.not_eq_true', Bool.not_eq_false', decide_eq_true_eq, decide_eq_false_iff_not] at hc2
        refine HW_seq rfl ?_
        refine HW_text (.pure 0 .done) (by kernel_rfl) ?_
        refine rw_p rfl rfl (y_assign rfl) ?_
        refine rw_done ?_
        refine gn_sq ?_
        refine HW_ret rfl ?_
        refine gr_sq ?_
        refine toR (fin hret rfl (.tmp rfl .nil) .one ?_)
        exact ⟨congrArg (Value.int .i64) (by clear hret hnorm hm; grind [Pl.ccheck]), hm.to⟩
      ·
        simp only [Bool.and_eq_true, Bool.or_eq_true, Bool.and_eq_false_iff, Bool.or_eq_false_iff, Bool.not_eq_true', Bool.not_eq_false', decide_eq_true_eq, decide_eq_false_iff_not] at hc2
        refine HW_skip rfl ?_
        refine gn_sq ?_
        refine HW_seq rfl ?_
        refine HW_seq rfl ?_
        refine HW_text (.pure 0 (.pure 1 (.pure 2 (.pure 3 (.pure 4 (.pure 5 (.pure 6 (.pure 7 (.pure 8 (.pure 9 (.act 10 (.act 11 (.pure 12 (.pure 13 (.pure 14 .done))))))))))))))) (by kernel_rfl) ?_
        refine rw_p rfl rfl (y_fieldAddr rfl fo27_0) ?_
        refine rw_p rfl rfl (y_load rfl sc3 (hm.nt 0 rfl) rfl) ?_
        refine rw_p rfl rfl (y_eq rfl rfl) ?_
        refine rw_p rfl rfl (y_move rfl) ?_
        refine rw_g rfl rfl rfl (fun hc => (y_fieldAddr rfl fo27_4)) ?_
        refine rw_g rfl rfl rfl (fun hc => (y_load (gx hc rfl) sc25 (hm.nt 0 rfl) rfl)) ?_
        refine rw_g rfl rfl rfl (fun hc => (y_len (gx hc rfl) rfl sl25)) ?_
        refine rw_g rfl rfl rfl (fun hc => (y_gt (gx hc rfl) rfl)) ?_
        refine rw_g rfl rfl rfl (fun hc => (y_move (gx hc rfl))) ?_
        refine rw_gg rfl rfl rfl (fun hc => (y_loadA (s := 5) (vs := [_, _, _, _, _]) rfl ag27 (hm.nt 0 rfl) rfl)) ?_
        refine a_callGG rfl rfl rfl (fun hc => (evs_c (gx hc rfl) evs_n)) go23 (fun hc => (r4_source _ _ _ _)) trivial fun w hE hh => ?_
        replace hm := hm.ext hE
        refine a_callGG rfl rfl rfl (fun hc => (evs_c (gx hc rfl) evs_n)) go17 (fun hc => (r1_valid _ _ _ (by omega) (by omega))) trivial fun w hE hh => ?_
        replace hm := hm.ext hE
        refine rw_gg rfl rfl rfl (fun hc => (y_not (gx hc rfl))) ?_
        refine rw_g rfl rfl rfl (fun hc => (y_or (gx hc rfl) rfl (gvn hc rfl))) ?_
        refine rw_p rfl rfl (y_and rfl rfl rfl) ?_
        refine rw_done ?_
        refine gn_sq ?_
        refine HW_cond rfl rfl (fun hc3 => ?_) (fun hc3 => ?_)
        ·
          simp only [Bool.and_eq_true, Bool.or_eq_true, Bool.and_eq_false_iff, Bool.or_eq_false_iff, Bool.not_eq_true', Bool.not_eq_false', decide_eq_true_eq, decide_eq_false_iff_not] at hc3
          refine HW_seq rfl ?_
          refine HW_text (.pure 0 .done) (by kernel_rfl) ?_
          refine rw_p rfl rfl (y_assign rfl) ?_
          refine rw_done ?_
          refine gn_sq ?_
          refine HW_ret rfl ?_
          refine gr_sq ?_
          refine toR (fin hret rfl (.tmp rfl .nil) .one ?_)
          exact ⟨congrArg (Value.int .i64) (by clear hret hnorm hm; grind [Pl.ccheck]), hm.to⟩
        ·
          simp only [Bool.and_eq_true, Bool.or_eq_true, Bool.and_eq_false_iff, Bool.or_eq_false_iff, Bool.not_eq_true', Bool.not_eq_false', decide_eq_true_eq, decide_eq_false_iff_not] at hc3
          refine HW_skip rfl ?_
          refine gn_sq ?_
          refine HW_seq rfl ?_
          refine HW_seq rfl ?_
          refine HW_text (.pure 0 (.pure 1 (.pure 2 (.pure 3 (.pure 4 (.pure 5 (.pure 6 (.pure 7 (.pure 8 (.pure 9 (.pure 10 (.pure 11 (.pure 12 .done))))))))))))) (by kernel_rfl) ?_
          refine rw_p rfl rfl (y_fieldAddr rfl fo27_0) ?_
          refine rw_p rfl rfl (y_load rfl sc3 (hm.nt 0 rfl) rfl) ?_
          refine rw_p rfl rfl (y_eq rfl rfl) ?_
          refine rw_p rfl rfl (y_move rfl) ?_
          refine rw_g rfl rfl rfl (fun hc => (y_fieldAddr rfl fo27_2)) ?_
          refine rw_g rfl rfl rfl (fun hc => (y_load (gx hc rfl) sc3 (hm.nt 0 rfl) rfl)) ?_
          refine rw_g rfl rfl rfl (fun hc => (y_ne (gx hc rfl) rfl)) ?_
          refine rw_g rfl rfl rfl (fun hc => (y_move (gx hc rfl))) ?_
          refine rw_gg rfl rfl rfl (fun hc => (y_fieldAddr rfl fo27_3)) ?_
          refine rw_gg rfl rfl rfl (fun hc => (y_load (gx hc rfl) sc3 (hm.nt 0 rfl) rfl)) ?_
          refine rw_gg rfl rfl rfl (fun hc => (y_ne (gx hc rfl) rfl)) ?_
          refine rw_g rfl rfl rfl (fun hc => (y_or (gx hc rfl) rfl (gvn hc rfl))) ?_
          refine rw_p rfl rfl (y_and rfl rfl rfl) ?_
          refine rw_done ?_
          refine gn_sq ?_
          refine HW_cond rfl rfl (fun hc4 => ?_) (fun hc4 => ?_)
          ·
            simp only [Bool.and_eq_true, Bool.or_eq_true, Bool.and_eq_false_iff, Bool.or_eq_false_iff, Bool.not_eq_true', Bool.not_eq_false', decide_eq_true_eq, decide_eq_false_iff_not] at hc4
            refine HW_seq rfl ?_
            refine HW_text (.pure 0 .done) (by kernel_rfl) ?_
            refine rw_p rfl rfl (y_assign rfl) ?_
            refine rw_done ?_
            refine gn_sq ?_
            refine HW_ret rfl ?_
            refine gr_sq ?_
            refine toR (fin hret rfl (.tmp rfl .nil) .one ?_)
            exact ⟨congrArg (Value.int .i64) (by clear hret hnorm hm; grind [Pl.ccheck]), hm.to⟩
          ·
            simp only [Bool.and_eq_true, Bool.or_eq_true, Bool.and_eq_false_iff, Bool.or_eq_false_iff, Bool.not_eq_true', Bool.not_eq_false', decide_eq_true_eq, decide_eq_false_iff_not] at hc4
            refine HW_skip rfl ?_
            refine gn_sq ?_
            refine HW_seq rfl ?_
            refine HW_text (.pure 0 .done) (by kernel_rfl) ?_
            refine rw_p rfl rfl (y_assign rfl) ?_
            refine rw_done ?_
            refine gn_sq ?_
            refine HW_ret rfl ?_
            refine toR (fin hret rfl (.tmp rfl .nil) .one ?_)
            exact ⟨congrArg (Value.int .i64) (by clear hret hnorm hm; grind [Pl.ccheck]), hm.to⟩

theorem c_same (a b : Pl.Cm) (p q : Option Addr) (c1 c2 : Nat) (w0 : World) (hp : Rd w0 p (a.bs.flatMap encB)) (hq : Rd w0 q (b.bs.flatMap encB)) : C Try.prog 21 [.agg ⟨cmV a p a.bs.length c1⟩, .agg ⟨cmV b q b.bs.length c2⟩] w0 fun v w' => v = .bool (Pl.csame a b) ∧ Ext No w0 w' := by
  refine C_of Try.func21 rfl rfl rfl fun κ hret hnorm => ?_
  have hm := Mem.start w0
  refine HW_seq rfl ?_
  refine HW_text (.act 0 (.act 1 (.pure 2 .done))) (by kernel_rfl) ?_
  refine a_box rfl rfl rfl rfl hm trivial fun m1 w hg_m1 hm hh => ?_
  refine a_box rfl rfl rfl rfl hm trivial fun m2 w hg_m2 hm hh => ?_
  refine rw_p rfl rfl (y_assign rfl) ?_
  refine rw_done ?_
  refine gn_sq ?_
  refine HW_seq rfl ?_
  refine HW_draw (.pure 0 (.pure 1 (.pure 2 (.pure 3 (.pure 4 (.pure 5 .done)))))) No mix (by kernel_rfl) hm fun w hw hm0 hh => ?_
  have hm := hm0
  refine rw_p rfl rfl (y_fieldAddr rfl fo27_4) ?_
  refine rw_p rfl rfl (y_load rfl sc25 (hm0.nd 1 rfl id) rfl) ?_
  refine rw_p rfl rfl (y_fieldAddr rfl fo27_4) ?_
  refine rw_p rfl rfl (y_load rfl sc25 (hm0.nd 0 rfl id) rfl) ?_
  refine rw_p rfl rfl (y_assign rfl) ?_
  refine rw_p rfl rfl (y_assign rfl) ?_
  refine rw_done ?_
  refine gn_sq ?_
  refine HW_seq rfl ?_
  refine HW_text (.pure 0 (.pure 1 (.pure 2 (.pure 3 (.pure 4 (.pure 5 (.pure 6 (.pure 7 (.pure 8 (.pure 9 (.pure 10 (.pure 11 (.pure 12 (.pure 13 (.pure 14 (.pure 15 (.pure 16 (.pure 17 (.pure 18 (.pure 19 (.pure 20 (.pure 21 (.pure 22 (.pure 23 (.pure 24 (.pure 25 (.pure 26 (.pure 27 (.pure 28 (.act 29 (.pure 30 (.pure 31 .done)))))))))))))))))))))))))))))))) (by kernel_rfl) ?_
  refine rw_p rfl rfl (y_fieldAddr rfl fo27_0) ?_
  refine rw_p rfl rfl (y_load rfl sc3 (hm.nt 1 rfl) rfl) ?_
  refine rw_p rfl rfl (y_fieldAddr rfl fo27_0) ?_
  refine rw_p rfl rfl (y_load rfl sc3 (hm.nt 0 rfl) rfl) ?_
  refine rw_p rfl rfl (y_eq rfl rfl) ?_
  refine rw_p rfl rfl (y_move rfl) ?_
  refine rw_g rfl rfl rfl (fun hc => (y_fieldAddr rfl fo27_1)) ?_
  refine rw_g rfl rfl rfl (fun hc => (y_load (gx hc rfl) sc3 (hm.nt 1 rfl) rfl)) ?_
  refine rw_g rfl rfl rfl (fun hc => (y_fieldAddr rfl fo27_1)) ?_
  refine rw_g rfl rfl rfl (fun hc => (y_load (gx hc rfl) sc3 (hm.nt 0 rfl) rfl)) ?_
  refine rw_g rfl rfl rfl (fun hc => (y_eq (gx hc rfl) (gx hc rfl))) ?_
  refine rw_p rfl rfl (y_and rfl rfl rfl) ?_
  refine rw_p rfl rfl (y_move rfl) ?_
  refine rw_g rfl rfl rfl (fun hc => (y_fieldAddr rfl fo27_2)) ?_
  refine rw_g rfl rfl rfl (fun hc => (y_load (gx hc rfl) sc3 (hm.nt 1 rfl) rfl)) ?_
  refine rw_g rfl rfl rfl (fun hc => (y_fieldAddr rfl fo27_2)) ?_
  refine rw_g rfl rfl rfl (fun hc => (y_load (gx hc rfl) sc3 (hm.nt 0 rfl) rfl)) ?_
  refine rw_g rfl rfl rfl (fun hc => (y_eq (gx hc rfl) (gx hc rfl))) ?_
  refine rw_p rfl rfl (y_and rfl rfl rfl) ?_
  refine rw_p rfl rfl (y_move rfl) ?_
  refine rw_g rfl rfl rfl (fun hc => (y_fieldAddr rfl fo27_3)) ?_
  refine rw_g rfl rfl rfl (fun hc => (y_load (gx hc rfl) sc3 (hm.nt 1 rfl) rfl)) ?_
  refine rw_g rfl rfl rfl (fun hc => (y_fieldAddr rfl fo27_3)) ?_
  refine rw_g rfl rfl rfl (fun hc => (y_load (gx hc rfl) sc3 (hm.nt 0 rfl) rfl)) ?_
  refine rw_g rfl rfl rfl (fun hc => (y_eq (gx hc rfl) (gx hc rfl))) ?_
  refine rw_p rfl rfl (y_and rfl rfl rfl) ?_
  refine rw_p rfl rfl (y_move rfl) ?_
  refine rw_g rfl rfl rfl (fun hc => (y_move rfl)) ?_
  refine rw_g rfl rfl rfl (fun hc => (y_move rfl)) ?_
  refine a_callG rfl rfl rfl (fun hc => (evs_c (gx hc rfl) (evs_c (gx hc rfl) evs_n))) go33 (fun hc => (b_equal p q c1 c2 a.bs b.bs _ (hp.ext0 hm.to) (hq.ext0 hm.to))) trivial fun w hE hh => ?_
  replace hm := hm.ext hE
  refine rw_p rfl rfl (y_and rfl rfl rfl) ?_
  refine rw_p rfl rfl (y_assign rfl) ?_
  refine rw_done ?_
  refine gn_sq ?_
  refine HW_ret rfl ?_
  refine toR (fin hret rfl (.tmp rfl .nil) .one ?_)
  exact ⟨congrArg Value.bool (by simp only [Pl.csame]), hm.to⟩

theorem r4_same (a b : Pl.Cm) (p q : Option Addr) (c1 c2 : Nat) (w0 : World) (hp : Rd w0 p (a.bs.flatMap encB)) (hq : Rd w0 q (b.bs.flatMap encB)) : C Try.prog 12 [.agg ⟨cmV a p a.bs.length c1⟩, .agg ⟨cmV b q b.bs.length c2⟩] w0 fun v w' => v = .bool (Pl.csame a b) ∧ Ext No w0 w' := by
  refine C_of Try.func12 rfl rfl rfl fun κ hret hnorm => ?_
  have hm := Mem.start w0
  refine HW_seq rfl ?_
  refine HW_text (.act 0 (.act 1 (.pure 2 .done))) (by kernel_rfl) ?_
  refine a_box rfl rfl rfl rfl hm trivial fun m1 w hg_m1 hm hh => ?_
  refine a_box rfl rfl rfl rfl hm trivial fun m2 w hg_m2 hm hh => ?_
  refine rw_p rfl rfl (y_assign rfl) ?_
  refine rw_done ?_
  refine gn_sq ?_
  refine HW_seq rfl ?_
  refine HW_text (.pure 0 (.pure 1 (.pure 2 (.pure 3 (.pure 4 (.pure 5 (.pure 6 (.pure 7 (.pure 8 (.pure 9 (.pure 10 (.pure 11 (.pure 12 (.pure 13 (.pure 14 (.pure 15 (.pure 16 (.pure 17 (.pure 18 (.pure 19 (.pure 20 (.pure 21 (.pure 22 (.pure 23 (.pure 24 (.pure 25 (.pure 26 (.pure 27 (.pure 28 (.pure 29 (.pure 30 (.pure 31 (.pure 32 (.pure 33 (.pure 34 (.pure 35 .done)))))))))))))))))))))))))))))))))))) (by kernel_rfl) ?_
  refine rw_p rfl rfl (y_fieldAddr rfl fo27_0) ?_
  refine rw_p rfl rfl (y_load rfl sc3 (hm.nt 1 rfl) rfl) ?_
  refine rw_p rfl rfl (y_fieldAddr rfl fo27_0) ?_
  refine rw_p rfl rfl (y_load rfl sc3 (hm.nt 0 rfl) rfl) ?_
  refine rw_p rfl rfl (y_eq rfl rfl) ?_
  refine rw_p rfl rfl (y_move rfl) ?_
  refine rw_g rfl rfl rfl (fun hc => (y_fieldAddr rfl fo27_1)) ?_
  refine rw_g rfl rfl rfl (fun hc => (y_load (gx hc rfl) sc3 (hm.nt 1 rfl) rfl)) ?_
  refine rw_g rfl rfl rfl (fun hc => (y_fieldAddr rfl fo27_1)) ?_
  refine rw_g rfl rfl rfl (fun hc => (y_load (gx hc rfl) sc3 (hm.nt 0 rfl) rfl)) ?_
  refine rw_g rfl rfl rfl (fun hc => (y_eq (gx hc rfl) (gx hc rfl))) ?_
  refine rw_p rfl rfl (y_and rfl rfl rfl) ?_
  refine rw_p rfl rfl (y_move rfl) ?_
  refine rw_g rfl rfl rfl (fun hc => (y_fieldAddr rfl fo27_2)) ?_
  refine rw_g rfl rfl rfl (fun hc => (y_load (gx hc rfl) sc3 (hm.nt 1 rfl) rfl)) ?_
  refine rw_g rfl rfl rfl (fun hc => (y_fieldAddr rfl fo27_2)) ?_
  refine rw_g rfl rfl rfl (fun hc => (y_load (gx hc rfl) sc3 (hm.nt 0 rfl) rfl)) ?_
  refine rw_g rfl rfl rfl (fun hc => (y_eq (gx hc rfl) (gx hc rfl))) ?_
  refine rw_p rfl rfl (y_and rfl rfl rfl) ?_
  refine rw_p rfl rfl (y_move rfl) ?_
  refine rw_g rfl rfl rfl (fun hc => (y_fieldAddr rfl fo27_3)) ?_
  refine rw_g rfl rfl rfl (fun hc => (y_load (gx hc rfl) sc3 (hm.nt 1 rfl) rfl)) ?_
  refine rw_g rfl rfl rfl (fun hc => (y_fieldAddr rfl fo27_3)) ?_
  refine rw_g rfl rfl rfl (fun hc => (y_load (gx hc rfl) sc3 (hm.nt 0 rfl) rfl)) ?_
  refine rw_g rfl rfl rfl (fun hc => (y_eq (gx hc rfl) (gx hc rfl))) ?_
  refine rw_p rfl rfl (y_and rfl rfl rfl) ?_
  refine rw_p rfl rfl (y_move rfl) ?_
  refine rw_g rfl rfl rfl (fun hc => (y_fieldAddr rfl fo27_4)) ?_
  refine rw_g rfl rfl rfl (fun hc => (y_load (gx hc rfl) sc25 (hm.nt 1 rfl) rfl)) ?_
  refine rw_g rfl rfl rfl (fun hc => (y_cvs (gx hc rfl) bt25_9 ((hp.ext0 hm.to).nt) rfl)) ?_
  refine rw_g rfl rfl rfl (fun hc => (y_fieldAddr rfl fo27_4)) ?_
  refine rw_g rfl rfl rfl (fun hc => (y_load (gx hc rfl) sc25 (hm.nt 0 rfl) rfl)) ?_
  refine rw_g rfl rfl rfl (fun hc => (y_cvs (gx hc rfl) bt25_9 ((hq.ext0 hm.to).nt) rfl)) ?_
  refine rw_g rfl rfl rfl (fun hc => (y_seqB (gx hc rfl) (gx hc rfl))) ?_
  refine rw_p rfl rfl (y_and rfl rfl rfl) ?_
  refine rw_p rfl rfl (y_assign rfl) ?_
  refine rw_done ?_
  refine gn_sq ?_
  refine HW_ret rfl ?_
  refine toR (fin hret rfl (.tmp rfl .nil) .one ?_)
  exact ⟨congrArg Value.bool (by simp only [Pl.csame]), hm.to⟩

end Go.Proofs.Ytabilcmhjnpjhaa
