/- Contracts of functions of the program: what each returns. Conditions: the hypotheses of each theorem. -/
import Derived.Test.YtdiklnekplhhgaaShaB
set_option linter.unusedVariables false
set_option linter.unusedSimpArgs false
namespace Go.Proofs.Ytdiklnekplhhgaa
open Go Go.Cx

theorem ag51 : aggS Try.prog 51 = some 10 := by kernel_rfl
theorem ft49 : fldT Try.prog 49 = some [(0, 1), (1, 1), (2, 1), (3, 1), (4, 1), (5, 1), (6, 1), (7, 1)] := by kernel_rfl
theorem ft51 : fldT Try.prog 51 = some [(0, 8), (8, 1), (9, 1)] := by kernel_rfl
theorem sz51 : szO Try.prog 51 = some 10 := by kernel_rfl
theorem z51 : zer Try.prog 51 = some [.int .u32 0, .int .u32 0, .int .u32 0, .int .u32 0, .int .u32 0, .int .u32 0, .int .u32 0, .int .u32 0, .slice none 0 0, .int .i64 0] := by kernel_rfl
theorem go35 : isGo Try.prog 35 = true := by kernel_rfl
theorem ag24 : aggS Try.prog 24 = some 32 := by kernel_rfl
theorem ar24 : arrO Try.prog 24 = some (32, 5, 1) := by kernel_rfl
theorem go25 : isGo Try.prog 25 = true := by kernel_rfl
theorem is48 : (Try.prog.underlying 48).isSome = true := by kernel_rfl
theorem is63 : (Try.prog.underlying 63).isSome = true := by kernel_rfl
theorem it3 : intO Try.prog 3 = some .i64 := by kernel_rfl
theorem it5 : intO Try.prog 5 = some .u8 := by kernel_rfl
theorem it63 : intO Try.prog 63 = some .u64 := by kernel_rfl
theorem sz24 : szO Try.prog 24 = some 32 := by kernel_rfl
theorem z24 : zer Try.prog 24 = some [.int .u8 0, .int .u8 0, .int .u8 0, .int .u8 0, .int .u8 0, .int .u8 0, .int .u8 0, .int .u8 0, .int .u8 0, .int .u8 0, .int .u8 0, .int .u8 0, .int .u8 0, .int .u8 0, .int .u8 0, .int .u8 0, .int .u8 0, .int .u8 0, .int .u8 0, .int .u8 0, .int .u8 0, .int .u8 0, .int .u8 0, .int .u8 0, .int .u8 0, .int .u8 0, .int .u8 0, .int .u8 0, .int .u8 0, .int .u8 0, .int .u8 0, .int .u8 0] := by kernel_rfl
theorem sz5 : szO Try.prog 5 = some 1 := by kernel_rfl

theorem h_initial (w0 : World) : C Try.prog 24 [] w0 fun v w' => v = .agg ⟨stV Pl.shI (.slice none 0 0) 0⟩ ∧ Ext No w0 w' := by
  refine C_of Try.func24 rfl rfl rfl fun κ hret hnorm => ?_
  have hm := Mem.start w0
  refine HW_seq rfl ?_
  refine HW_text (.act 0 .done) (by kernel_rfl) ?_
  refine a_alloc rfl rfl z51 hm trivial fun m1 w hg_m1 hm hh => ?_
  refine rw_done ?_
  refine gn_sq ?_
  refine HW_seq rfl ?_
  refine HW_text (.pure 0 (.pure 1 (.act 2 .done))) (by kernel_rfl) ?_
  refine rw_p rfl rfl (y_build (cs := [_, _, _, _, _, _, _, _]) z49 ft49 rfl rfl rfl rfl rfl) ?_
  refine rw_p rfl rfl (y_build (cs := [_, _, _, _, _, _, _, _, _, _]) z51 ft51 rfl rfl rfl rfl rfl) ?_
  refine a_store rfl rfl rfl rfl sz51 rfl hm 0 rfl rfl fun w hm => ?_
  refine rw_done ?_
  refine gn_sq ?_
  refine HW_ret rfl ?_
  refine toR (fin hret rfl (.cell rfl (run_loadVar_a (vs := [_, _, _, _, _, _, _, _, _, _]) ag51 (hm.get (k := 0) rfl) rfl) .nil) .one ?_)
  exact ⟨rfl, hm.to⟩

theorem h_copied (TT m : Nat) (msg : List UInt8) (Z : List (Nat × Blk)) (w0 : World) (hZ : OwnZ w0 Z) (hz : HashZ TT 5 msg m Z) (hml : msg.length ≤ 1000000000000) : C Try.prog 26 [.pointer (some ⟨m, 0, none⟩)] w0 fun v w' => ∃ p9 c9 g9 b9, v = .agg ⟨stV (Pl.shSt msg) (.slice p9 (Pl.shRest msg).length c9) (msg.length : Int)⟩ ∧ Acc 5 1 p9 (Pl.shRest msg).length c9 ((Pl.shRest msg).flatMap encB) g9 b9 ∧ Mem w0 w' No [(g9, b9)] := by
  obtain ⟨p, cap, g, b, rfl, ha⟩ := hz
  have hP : w0.heap[m]? = some (Blk.row TT (stV (Pl.shSt msg) (.slice p (Pl.shRest msg).length cap) (msg.length : Int))).toObj := hZ.get (k := 0) rfl
  have hrl := Pl.shRest_len msg
  have hRd := ha.rdM hZ.start (by simp)
  refine C_of Try.func26 rfl rfl rfl fun κ hret hnorm => ?_
  have hm := Mem.start w0
  refine HW_seq rfl ?_
  refine HW_text (.act 0 .done) (by kernel_rfl) ?_
  refine a_alloc rfl rfl z51 hm trivial fun m1 w hg_m1 hm hh => ?_
  refine rw_done ?_
  refine gn_sq ?_
  refine HW_seq rfl ?_
  refine HW_text (.pure 0 (.pure 1 (.pure 2 (.act 3 (.act 4 .done))))) (by kernel_rfl) ?_
  refine rw_p rfl rfl (y_move rfl) ?_
  refine rw_p rfl rfl (y_nil rfl) ?_
  refine rw_p rfl rfl (y_loadA (s := 10) (vs := [_, _, _, _, _, _, _, _, _, _]) rfl ag51 (nowT ((hm.to.same _ (Array.getElem?_eq_some_iff.1 hP).1 id).trans hP)) rfl) ?_
  refine a_alloc rfl rfl z51 hm trivial fun m2 w hg_m2 hm hh => ?_
  refine a_store rfl rfl rfl rfl sz51 rfl hm 0 rfl rfl fun w hm => ?_
  refine rw_done ?_
  refine gn_sq ?_
  refine HW_seq rfl ?_
  refine HW_text (.pure 0 (.pure 1 (.pure 2 (.pure 3 (.act 4 (.pure 5 (.act 6 .done))))))) (by kernel_rfl) ?_
  refine rw_p rfl rfl (y_move rfl) ?_
  refine rw_p rfl rfl (y_nil rfl) ?_
  refine rw_p rfl rfl (y_fieldAddr rfl fo51_1) ?_
  refine rw_p rfl rfl (y_load rfl sc22 (nowT ((hm.to.same _ (Array.getElem?_eq_some_iff.1 hP).1 id).trans hP)) rfl) ?_
  refine a_call rfl rfl rfl go35 (clone_b p cap (Pl.shRest msg) _ (hRd.ext0 hm.to) (by omega)) fun v w hR => ?_
  obtain ⟨p_s, cap_s, g_s, b_s, rfl, ha_s, hmc⟩ := hR
  refine ⟨trivial, ?_⟩
  replace hm := hm.callN hmc
  refine rw_p rfl rfl (y_fieldAddr rfl fo51_1) ?_
  refine a_store rfl rfl rfl rfl sz22 rfl hm 1 rfl rfl fun w hm => ?_
  refine rw_done ?_
  refine gn_sq ?_
  refine HW_seq rfl ?_
  refine HW_text (.pure 0 (.act 1 .done)) (by kernel_rfl) ?_
  refine rw_p rfl rfl (y_loadA (s := 10) (vs := [_, _, _, _, _, _, _, _, _, _]) rfl ag51 (hm.nt 1 rfl) rfl) ?_
  refine a_store rfl rfl rfl rfl sz51 rfl hm 2 rfl rfl fun w hm => ?_
  refine rw_done ?_
  refine gn_sq ?_
  refine HW_ret rfl ?_
  refine toR (fin hret rfl (.cell rfl (run_loadVar_a (vs := [_, _, _, _, _, _, _, _, _, _]) ag51 (hm.get (k := 2) rfl) rfl) .nil) .one ?_)
  exact ⟨p_s, cap_s, g_s, b_s, rfl, ha_s, (hm.pick [0] rfl)⟩

set_option maxHeartbeats 1600000 in
theorem h_finish (TT m : Nat) (msg : List UInt8) (Z : List (Nat × Blk)) (w0 : World) (hZ : OwnZ w0 Z) (hz : HashZ TT 5 msg m Z) (hml : msg.length ≤ 1000000000000) : C Try.prog 27 [.pointer (some ⟨m, 0, none⟩)] w0 fun v w' => v = .agg ⟨(Pl.sha msg).flatMap encB⟩ ∧ ∃ Z', Mem w0 w' (Mn (reals Z)) Z' := by
  have hzz := hz
  obtain ⟨p, cap, g, b, hZe, ha⟩ := hzz
  have hrl := Pl.shRest_len msg
  have hpz : (119 - (Pl.shRest msg).length) % 64 = Pl.padZ msg.length := by unfold Pl.padZ; rw [hrl]
  refine C_of Try.func27 rfl rfl rfl fun κ hret hnorm => ?_
  have hm := hZ.start
  refine HW_seq rfl ?_
  refine HW_text (.act 0 .done) (by kernel_rfl) ?_
  refine a_alloc rfl rfl z24 hm trivial fun m1 w hg_m1 hm hh => ?_
  refine rw_done ?_
  refine gn_sq ?_
  refine HW_seq rfl ?_
  refine HW_text (.pure 0 (.pure 1 (.pure 2 (.pure 3 (.pure 4 (.pure 5 (.pure 6 .done))))))) (by kernel_rfl) ?_
  refine rw_p rfl rfl (y_move rfl) ?_
  have hPn := (hZe ▸ OwnZ.right (A := [_]) hm.ownZ).get (k := 0) rfl
  refine rw_p rfl rfl (y_nil rfl) ?_
  refine rw_p rfl rfl (y_fieldAddr rfl fo51_2) ?_
  refine rw_p rfl rfl (y_load rfl sc3 (nowT hPn) rfl) ?_
  refine rw_p rfl rfl (y_conv rfl is3 it63 (u64N.trans (by rw [Nat.mod_eq_of_lt (by omega)]))) ?_
  refine rw_p rfl rfl (y_mul rfl rfl (u_mul (b := 8) (by omega))) ?_
  refine rw_p rfl rfl (y_assign rfl) ?_
  refine rw_done ?_
  refine gn_sq ?_
  refine HW_seq rfl ?_
  refine HW_text (.act 0 (.pure 1 (.pure 2 (.pure 3 (.pure 4 (.pure 5 (.pure 6 (.pure 7 (.act 8 (.pure 9 .done)))))))))) (by kernel_rfl) ?_
  refine a_buildSlice (l := [_]) rfl rfl sl22 z5 rfl rfl rfl rfl rfl rfl rfl hm trivial fun m2 w hg_m2 hm hh => ?_
  refine rw_p rfl rfl (y_move rfl) ?_
  have hPn := (hZe ▸ OwnZ.right (A := [_, _]) hm.ownZ).get (k := 0) rfl
  refine rw_p rfl rfl (y_nil rfl) ?_
  refine rw_p rfl rfl (y_fieldAddr rfl fo51_1) ?_
  refine rw_p rfl rfl (y_load rfl sc22 (nowT hPn) rfl) ?_
  refine rw_p rfl rfl (y_len rfl rfl sl22) ?_
  refine rw_p rfl rfl (y_sub rfl rfl (subK (a := 119) _ (by omega) (by decide))) ?_
  refine rw_p rfl rfl (y_rem rfl rfl (by decide) ((remK _ 64).trans (by rw [hpz]))) ?_
  refine a_appendZ rfl rfl rfl rfl rfl rfl sl22 it3 z5 rfl rfl (Acc.row rfl) hm 0 rfl (by unfold Pl.padZ; omega) (by unfold Pl.padZ; omega) fun p_e cap_e g_e b_e w ha_e hm => ?_
  replace ha_e := ha_e.to (show _ = ([128] ++ List.replicate (Pl.padZ msg.length) 0 ++ (Pl.beN (msg.length * 8) 8).take 0).flatMap encB by rw [repB, List.take_zero, List.append_nil, List.flatMap_append]; rfl)
  have hne := ha_e.lenB
  rw [hne] at ha_e
  refine rw_p rfl rfl (y_assign rfl) ?_
  refine rw_done ?_
  refine gn_sq ?_
  refine HW_seq rfl ?_
  refine HW_seq rfl ?_
  refine HW_text (.pure 0 .done) (by kernel_rfl) ?_
  refine rw_p rfl rfl (y_assign rfl) ?_
  refine rw_done ?_
  refine gn_sq ?_
  refine HW_block rfl ?_
  refine HW_loopK (ι := Nat × Option Addr × Nat × Nat × Blk) rfl (ks := [0, 2, 3]) (.cons rfl (.cons rfl (.cons rfl .nil))) (fun x => [(5, .int .i64 (7 - (x.1 : Int))), (4, .slice x.2.1 ([128] ++ List.replicate (Pl.padZ msg.length) 0 ++ (Pl.beN (msg.length * 8) 8).take x.1).length x.2.2.1)]) (fun x w => Mem w0 w (Mn (reals Z)) ((x.2.2.2.1, x.2.2.2.2) :: (m1, .row 24 ((List.replicate 32 (0 : UInt8)).flatMap encB)) :: Z) ∧ Acc 5 1 x.2.1 ([128] ++ List.replicate (Pl.padZ msg.length) 0 ++ (Pl.beN (msg.length * 8) 8).take x.1).length x.2.2.1 (([128] ++ List.replicate (Pl.padZ msg.length) 0 ++ (Pl.beN (msg.length * 8) 8).take x.1).flatMap encB) x.2.2.2.1 x.2.2.2.2 ∧ x.1 ≤ 8) (fun x => 8 - x.1) (0, p_e, cap_e, g_e, b_e) (⟨hm, ha_e, Nat.zero_le _⟩) ⟨rfl, congrArg (fun z => some (Value.slice p_e z cap_e)) hne, trivial⟩ (fun x w hM => ?_)
  obtain ⟨hm, ha_e, hk⟩ := hM
  refine HW_seq rfl ?_
  refine HW_seq rfl ?_
  refine HW_text (.pure 0 (.pure 1 .done)) (by kernel_rfl) ?_
  refine rw_p rfl rfl (y_move rfl) ?_
  refine rw_p rfl rfl (y_ge rfl rfl) ?_
  refine rw_done ?_
  refine gn_sq ?_
  refine HW_cond rfl rfl (fun hc0 => ?_) (fun hc0 => ?_)
  ·
    simp only [decide_eq_true_eq] at hc0
    obtain ⟨y, p_e, cap_e, g_e, b_e⟩ := x
    simp only at hm ha_e hk hc0 ⊢
    have hel : ([128] ++ List.replicate (Pl.padZ msg.length) 0 ++ (Pl.beN (msg.length * 8) 8).take y).length ≤ 100 := by simp only [List.length_append, List.length_replicate, List.length_take, Pl.beN_len, List.length_cons, List.length_nil]; unfold Pl.padZ; omega
    have hbn := Pl.beN_get (msg.length * 8) 8 y (by omega)
    refine HW_skip rfl ?_
    refine gn_sq ?_
    refine HW_seq rfl ?_
    refine HW_block rfl ?_
    refine HW_text (.pure 0 (.pure 1 (.pure 2 (.pure 3 (.pure 4 (.pure 5 (.act 6 (.act 7 (.pure 8 .done))))))))) (by kernel_rfl) ?_
    refine rw_p rfl rfl (y_move rfl) ?_
    refine rw_p rfl rfl (y_move rfl) ?_
    refine rw_p rfl rfl (y_move rfl) ?_
    refine rw_p rfl rfl (y_mul rfl rfl (i64w (by omega) (by omega))) ?_
    refine rw_p rfl rfl (y_shr rfl rfl (by omega) rfl) ?_
    refine rw_p rfl rfl (y_conv rfl is63 it5 (be_shift (y := y) (by omega) rfl)) ?_
    refine a_buildSlice (l := [_]) rfl rfl sl22 z5 rfl rfl rfl rfl rfl rfl rfl hm trivial fun m3 w hg_m3 hm hh => ?_
    refine a_append rfl rfl rfl rfl rfl rfl sl22 sl22 z5 rfl rfl (Rd.row0 (hm.get (k := 0) rfl)) rfl ha_e hm 1 rfl (by omega) (by omega) fun p_e cap_e g_e b_e w ha_e hm => ?_
    replace ha_e := ha_e.to (show _ = ([128] ++ List.replicate (Pl.padZ msg.length) 0 ++ (Pl.beN (msg.length * 8) 8).take (y + 1)).flatMap encB by rw [List.take_add_one, hbn, Option.toList, ← List.append_assoc, List.flatMap_append (xs := ([128] ++ List.replicate (Pl.padZ msg.length) 0 ++ (Pl.beN (msg.length * 8) 8).take y))]; rfl)
    have hne := ha_e.lenB
    refine rw_p rfl rfl (y_assign rfl) ?_
    refine rw_done ?_
    refine gn_bl ?_
    refine gn_sq ?_
    refine HW_text (.pure 0 (.pure 1 (.pure 2 .done))) (by kernel_rfl) ?_
    refine rw_p rfl rfl (y_move rfl) ?_
    refine rw_p rfl rfl (y_sub rfl rfl (i64w (by omega) (by omega))) ?_
    refine rw_p rfl rfl (y_assign rfl) ?_
    refine rw_done ?_
    refine next (y + 1, p_e, cap_e, g_e, b_e) (by simp only; omega) ⟨(hm.pickT [1, 2] 3 rfl), ?_, by simp only; omega⟩ ⟨congrArg (fun z => some (Value.int .i64 z)) (show (7 : Int) - (y : Int) - 1 = 7 - ((y + 1 : Nat) : Int) by omega), congrArg (fun z => some (Value.slice p_e z cap_e)) hne, rfl, rfl, rfl, trivial⟩
    simp only
    rw [← hne]
    exact ha_e
  ·
    simp only [decide_eq_false_iff_not] at hc0
    obtain ⟨y, p_e, cap_e, g_e, b_e⟩ := x
    simp only at hm ha_e hk hc0 ⊢
    obtain rfl : y = 8 := by omega
    have hee : ([128] ++ List.replicate (Pl.padZ msg.length) 0 ++ (Pl.beN (msg.length * 8) 8).take 8) = Pl.shPad msg.length := by unfold Pl.shPad; rw [List.take_of_length_le (by rw [Pl.beN_len]; exact Nat.le_refl _)]
    rw [hee] at ha_e ⊢
    have hpl := (Pl.shPad_len msg.length).2
    refine HW_exit rfl ?_
    refine gx_sq (gx_lp ?_)
    refine gx_here ?_
    refine gn_sq ?_
    refine HW_seq rfl ?_
    refine HW_text (.pure 0 (.pure 1 (.act 2 .done))) (by kernel_rfl) ?_
    refine rw_p rfl rfl (y_move rfl) ?_
    refine rw_p rfl rfl (y_move rfl) ?_
    refine a_call rfl rfl rfl go25 (h_take (Pl.shPad msg.length) p_e cap_e TT m msg Z _ (OwnZ.right (A := [_, _]) hm.ownZ) hz hml (ha_e.rd hm 0 rfl) (fun hn ad e h9 => by have q9 := ha_e.at9 hn; rw [q9.1] at e; cases e; exact Mem.notT (A := [_, _]) hm (k := 0) rfl q9.2 h9) (by omega)) fun v w hR => ?_
    obtain ⟨rfl, Z9, hz9, hmc⟩ := hR
    refine ⟨trivial, ?_⟩
    replace hm := Mem.callZL (A := [_, _]) hm hmc
    obtain ⟨p9, cap9, g9, b9, rfl, ha9⟩ := hz9
    refine rw_done ?_
    refine gn_sq ?_
    refine HW_seq rfl ?_
    refine HW_text (.act 0 .done) (by kernel_rfl) ?_
    refine a_alloc rfl rfl z24 hm trivial fun m3 w hg_m3 hm hh => ?_
    refine rw_done ?_
    refine gn_sq ?_
    refine HW_seq rfl ?_
    refine HW_seq rfl ?_
    refine HW_text (.pure 0 .done) (by kernel_rfl) ?_
    refine rw_p rfl rfl (y_move rfl) ?_
    refine rw_done ?_
    refine gn_sq ?_
    refine HW_block rfl ?_
    refine HW_loopK (ι := Nat) rfl (ks := [0, 2, 6]) (.cons rfl (.cons rfl (.cons rfl .nil))) (fun x => [(38, .int .i64 x)]) (fun x w => Mem w0 w (Mn (reals Z)) [(m3, .row 24 (((Pl.shOut (Pl.shSt (msg ++ Pl.shPad msg.length))).take x ++ List.replicate (32 - x) 0).flatMap encB)), (m, .row TT (stV (Pl.shSt (msg ++ Pl.shPad msg.length)) (.slice p9 (Pl.shRest (msg ++ Pl.shPad msg.length)).length cap9) ((msg ++ Pl.shPad msg.length).length : Int))), (m1, .row 24 ((List.replicate 32 (0 : UInt8)).flatMap encB))] ∧ x ≤ 32) (fun x => 32 - x) 0 (⟨by rw [List.take_zero, List.nil_append, Nat.sub_zero]; exact (hm.pick [0, 3, 2] rfl), Nat.zero_le _⟩) ⟨rfl, trivial⟩ (fun x w hM => ?_)
    obtain ⟨hm, hk⟩ := hM
    refine HW_seq rfl ?_
    refine HW_text (.pure 0 .done) (by kernel_rfl) ?_
    refine rw_p rfl rfl (y_lt rfl rfl) ?_
    refine rw_done ?_
    refine gn_sq ?_
    refine HW_seq rfl ?_
    refine HW_cond rfl rfl (fun hc1 => ?_) (fun hc1 => ?_)
    ·
      simp only [decide_eq_true_eq] at hc1
      have hog := Pl.shOut_get (Pl.shSt (msg ++ Pl.shPad msg.length)) (i := x) (by omega)
      refine HW_skip rfl ?_
      refine gn_sq ?_
      refine HW_seq rfl ?_
      refine HW_block rfl ?_
      refine HW_seq rfl ?_
      refine HW_text (.pure 0 (.pure 1 .done)) (by kernel_rfl) ?_
      refine rw_p rfl rfl (y_move rfl) ?_
      refine rw_p rfl rfl (y_assign rfl) ?_
      refine rw_done ?_
      refine gn_sq ?_
      refine HW_text (.pure 0 (.pure 1 (.pure 2 (.pure 3 (.pure 4 (.pure 5 (.pure 6 (.pure 7 (.pure 8 (.pure 9 (.pure 10 (.pure 11 (.pure 12 (.pure 13 (.pure 14 (.act 15 .done)))))))))))))))) (by kernel_rfl) ?_
      refine rw_p rfl rfl (y_move rfl) ?_
      refine rw_p rfl rfl (y_move rfl) ?_
      refine rw_p rfl rfl (y_move rfl) ?_
      refine rw_p rfl rfl (y_quo rfl rfl (by decide) (quoK x 4 (by omega) (by decide))) ?_
      refine rw_p rfl rfl (y_nil rfl) ?_
      refine rw_p rfl rfl (y_fieldAddr rfl fo51_0) ?_
      refine rw_p rfl rfl (y_indexP rfl rfl ar49 (Int.natCast_nonneg _) (by omega)) ?_
      refine rw_p rfl rfl (y_load rfl sc48 (hm.nt 1 rfl) (stV_get (i := x / 4) (by omega))) ?_
      refine rw_p rfl rfl (y_move rfl) ?_
      refine rw_p rfl rfl (y_rem rfl rfl (by decide) (remK x 4)) ?_
      refine rw_p rfl rfl (y_mul rfl rfl (mulN (a := x % 4) (b := 8) (by omega))) ?_
      refine rw_p rfl rfl (y_sub rfl rfl (subK (a := 24) _ (by omega) (by decide))) ?_
      refine rw_p rfl rfl (y_shr rfl rfl (Int.natCast_nonneg _) (w_shr (UInt32.ofNat (24 - x % 4 * 8)) (by rw [oN (by omega)]) (by rw [oN (by omega)]; omega))) ?_
      refine rw_p rfl rfl (y_conv rfl is48 it5 w_u8) ?_
      refine rw_p rfl rfl (y_indexP rfl rfl ar24 (Int.natCast_nonneg _) (by omega)) ?_
      refine a_store rfl rfl rfl rfl sz5 rfl hm 0 rfl (by rw [Nat.ble_eq, lenB, List.length_append, List.length_take, List.length_replicate, Pl.shOut_len]; simp only [List.length_singleton]; omega) fun w hm => ?_
      have hm2 := hm
      simp only [setB] at hm2
      rw [show (x : Int).toNat = x from rfl, setB0, fill_next (by rw [List.length_take, Pl.shOut_len]; omega) (by omega), ← Pl.take_snoc hog] at hm2
      refine rw_done ?_
      refine gn_bl ?_
      refine gn_sq ?_
      refine HW_text (.pure 0 (.pure 1 .done)) (by kernel_rfl) ?_
      refine rw_p rfl rfl (y_add rfl rfl (i64w (by omega) (by omega))) ?_
      refine rw_p rfl rfl (y_move rfl) ?_
      refine rw_done ?_
      refine next (x + 1) (by omega) ⟨hm2, by omega⟩ ⟨nx x, rfl, rfl, rfl, trivial⟩
    ·
      simp only [decide_eq_false_iff_not] at hc1
      obtain rfl : x = 32 := by omega
      rw [Nat.sub_self, List.replicate_zero, List.append_nil, List.take_of_length_le (by rw [Pl.shOut_len]; exact Nat.le_refl _)] at hm
      refine HW_exit rfl ?_
      refine gx_sq (gx_lp ?_)
      refine gx_here ?_
      refine gn_sq ?_
      refine HW_seq rfl ?_
      refine HW_text (.pure 0 (.act 1 .done)) (by kernel_rfl) ?_
      refine rw_p rfl rfl (y_loadA (s := 32) (vs := (((Pl.shOut (Pl.shSt (msg ++ Pl.shPad msg.length)))).flatMap encB)) rfl ag24 (hm.nt 0 rfl) (nthsB (Pl.shOut_len _))) ?_
      refine a_store rfl rfl rfl rfl (sz24.trans (congrArg some (lenB32 (Pl.shOut_len _)).symm)) (oneB _) hm 2 rfl (by rw [Nat.ble_eq, lenB32 (Pl.shOut_len _), lenB32 List.length_replicate]; exact Nat.le_refl 32) fun w hm => ?_
      rw [upds_all (by rw [lenB32 (Pl.shOut_len _), lenB32 List.length_replicate])] at hm
      refine rw_done ?_
      refine gn_sq ?_
      refine HW_ret rfl ?_
      refine toR (fin hret rfl (.cell rfl (run_loadVar_a (vs := (((Pl.shOut (Pl.shSt (msg ++ Pl.shPad msg.length)))).flatMap encB)) ag24 (hm.get (k := 2) rfl) (nthsB (Pl.shOut_len _))) .nil) .one ?_)
      exact ⟨rfl, _, hm⟩

end Go.Proofs.Ytdiklnekplhhgaa
