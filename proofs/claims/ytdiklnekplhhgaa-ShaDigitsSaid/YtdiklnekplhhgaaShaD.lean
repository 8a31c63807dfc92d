/- Contracts of functions of the program: what each returns. Conditions: the hypotheses of each theorem. -/
import Derived.Test.YtdiklnekplhhgaaShaC
set_option linter.unusedVariables false
set_option linter.unusedSimpArgs false
namespace Go.Proofs.Ytdiklnekplhhgaa
open Go Go.Cx

theorem ft54 : fldT Try.prog 54 = some [(0, 10)] := by kernel_rfl
theorem go24 : isGo Try.prog 24 = true := by kernel_rfl
theorem z54 : zer Try.prog 54 = some [.int .u32 0, .int .u32 0, .int .u32 0, .int .u32 0, .int .u32 0, .int .u32 0, .int .u32 0, .int .u32 0, .slice none 0 0, .int .i64 0] := by kernel_rfl
theorem fo54_0 : fldO Try.prog 54 0 = some 0 := by kernel_rfl
theorem pb28 : ptrB Try.prog 28 = true := by kernel_rfl
theorem sl34 : slcO Try.prog 34 = some (22, 1, 24) := by kernel_rfl
theorem go26 : isGo Try.prog 26 = true := by kernel_rfl
theorem go27 : isGo Try.prog 27 = true := by kernel_rfl
theorem ft24 : fldT Try.prog 24 = some [(0, 1), (1, 1), (2, 1), (3, 1), (4, 1), (5, 1), (6, 1), (7, 1), (8, 1), (9, 1), (10, 1), (11, 1), (12, 1), (13, 1), (14, 1), (15, 1), (16, 1), (17, 1), (18, 1), (19, 1), (20, 1), (21, 1), (22, 1), (23, 1), (24, 1), (25, 1), (26, 1), (27, 1), (28, 1), (29, 1), (30, 1), (31, 1)] := by kernel_rfl
theorem go12 : isGo Try.prog 12 = true := by kernel_rfl
theorem go13 : isGo Try.prog 13 = true := by kernel_rfl
theorem go14 : isGo Try.prog 14 = true := by kernel_rfl

theorem h_new (w0 : World) : C Try.prog 12 [] w0 fun v w' => ∃ m Z, v = .pointer (some ⟨m, 0, none⟩) ∧ HashZ 54 5 [] m Z ∧ Mem w0 w' No Z := by
  refine C_of Try.func12 rfl rfl rfl fun κ hret hnorm => ?_
  have hm := Mem.start w0
  refine HW_seq rfl ?_
  refine HW_text (.pure 0 .done) (by kernel_rfl) ?_
  refine rw_p rfl rfl (y_assign rfl) ?_
  refine rw_done ?_
  refine gn_sq ?_
  refine HW_seq rfl ?_
  refine HW_text (.act 0 (.pure 1 (.act 2 (.pure 3 .done)))) (by kernel_rfl) ?_
  refine a_call rfl rfl rfl go24 (h_initial _) fun v w hR => ?_
  obtain ⟨rfl, hE⟩ := hR
  refine ⟨trivial, ?_⟩
  replace hm := hm.ext hE
  refine rw_p rfl rfl (y_build (cs := [_, _, _, _, _, _, _, _, _, _]) z54 ft54 rfl rfl rfl rfl rfl) ?_
  refine a_box rfl rfl rfl rfl hm trivial fun m1 w hg_m1 hm hh => ?_
  refine rw_p rfl rfl (y_assign rfl) ?_
  refine rw_done ?_
  refine gn_sq ?_
  refine HW_ret rfl ?_
  refine toR (fin hret rfl (.tmp rfl .nil) .one ?_)
  exact ⟨_, _, rfl, ⟨none, 0, 0, .gap, rfl, (Acc.nil _ _ _ _).o⟩, (hm.gapIn.pick [1, 0] rfl)⟩

set_option maxHeartbeats 800000 in
theorem h_write (q : Option Addr) (cq : Nat) (ps : List SB) (TT m : Nat) (msg : List UInt8) (Z : List (Nat × Blk)) (w0 : World) (hZ : OwnZ w0 Z) (hz : HashZ TT 5 msg m Z) (hml : msg.length ≤ 1000000000000) (hq : Rd w0 q (ps.flatMap encS)) (hps : ∀ s ∈ ps, Rd w0 s.p (s.bs.flatMap encB)) (hqa : ps.flatMap encS ≠ [] → ∀ ad, q = some ad → ¬ Mn (reals Z) ad.block) (hpa : ∀ s ∈ ps, s.bs.flatMap encB ≠ [] → ∀ ad, s.p = some ad → ¬ Mn (reals Z) ad.block) (hl : ps.length ≤ 1000000000000) (hbl : msg.length + (ps.flatMap (·.bs)).length ≤ 1000000000000) : C Try.prog 13 [.pointer (some ⟨m, 0, none⟩), .slice q ps.length cq] w0 fun v w' => v = .int .i64 ((ps.flatMap (·.bs)).length : Int) ∧ ∃ Z', HashZ TT 5 (msg ++ (ps.flatMap (·.bs))) m Z' ∧ Mem w0 w' (Mn (reals Z)) Z' := by
  refine C_of Try.func13 rfl rfl rfl fun κ hret hnorm => ?_
  have hm := hZ.start
  refine HW_seq rfl ?_
  refine HW_text (.pure 0 .done) (by kernel_rfl) ?_
  refine rw_p rfl rfl (y_assign rfl) ?_
  refine rw_done ?_
  refine gn_sq ?_
  refine HW_seq rfl ?_
  refine HW_seq rfl ?_
  refine HW_text (.pure 0 (.pure 1 .done)) (by kernel_rfl) ?_
  refine rw_p rfl rfl (y_move rfl) ?_
  refine rw_p rfl rfl (y_pnil rfl rfl pb28) ?_
  refine rw_done ?_
  refine gn_sq ?_
  refine HW_condF rfl rfl rfl ?_
  refine HW_skip rfl ?_
  refine gn_sq ?_
  refine HW_seq rfl ?_
  refine HW_text (.pure 0 (.pure 1 (.pure 2 (.pure 3 (.pure 4 (.pure 5 .done)))))) (by kernel_rfl) ?_
  refine rw_p rfl rfl (y_move rfl) ?_
  obtain ⟨rv_, hPn⟩ := hz.row hZ
  refine rw_p rfl rfl (y_nil rfl) ?_
  refine rw_p rfl rfl (y_fieldAddr rfl fo54_0) ?_
  refine rw_p rfl rfl (y_fieldAddr rfl fo51_2) ?_
  refine rw_p rfl rfl (y_load rfl sc3 (nowT hPn) rfl) ?_
  refine rw_p rfl rfl (y_assign rfl) ?_
  refine rw_done ?_
  refine gn_sq ?_
  refine HW_seq rfl ?_
  refine HW_seq rfl ?_
  refine HW_text (.pure 0 (.pure 1 (.pure 2 .done))) (by kernel_rfl) ?_
  refine rw_p rfl rfl (y_move rfl) ?_
  refine rw_p rfl rfl (y_len rfl rfl sl34) ?_
  refine rw_p rfl rfl (y_move rfl) ?_
  refine rw_done ?_
  refine gn_sq ?_
  refine HW_block rfl ?_
  refine HW_loopK (ι := Nat × List (Nat × Blk)) rfl (ks := [0, 4, 5, 15, 16]) (.cons rfl (.cons rfl (.cons rfl (.cons rfl (.cons rfl .nil))))) (fun x => [(17, .int .i64 x.1)]) (fun x w => Mem w0 w (Mn (reals Z)) x.2 ∧ HashZ TT 5 (msg ++ (ps.take x.1).flatMap (·.bs)) m x.2 ∧ x.1 ≤ ps.length) (fun x => ps.length - x.1) (0, Z) (⟨hm, by simpa using hz, Nat.zero_le _⟩) ⟨rfl, trivial⟩ (fun x w hM => ?_)
  obtain ⟨hm, hz_h, hk⟩ := hM
  refine HW_seq rfl ?_
  refine HW_text (.pure 0 .done) (by kernel_rfl) ?_
  refine rw_p rfl rfl (y_lt rfl rfl) ?_
  refine rw_done ?_
  refine gn_sq ?_
  refine HW_seq rfl ?_
  refine HW_cond rfl rfl (fun hc1 => ?_) (fun hc1 => ?_)
  ·
    obtain ⟨x, Z_h⟩ := x
    simp only at hm hz_h hk hc1 ⊢
    simp only [decide_eq_true_eq] at hc1
    obtain ⟨s, hi⟩ : ∃ y_, ps[x]? = some y_ := ⟨_, List.getElem?_eq_getElem (by omega)⟩
    obtain ⟨b2, o2, hp2⟩ := hq.atI encS_len (by decide) hi
    have hsm := List.mem_of_getElem? hi
    have hft := flat_take hi
    have hfl := flat_le ps x
    have hfl1 := flat_le ps (x + 1)
    rw [hft, List.length_append] at hfl1
    refine HW_skip rfl ?_
    refine gn_sq ?_
    refine HW_seq rfl ?_
    refine HW_block rfl ?_
    refine HW_seq rfl ?_
    refine HW_text (.pure 0 (.pure 1 (.pure 2 .done))) (by kernel_rfl) ?_
    refine rw_p rfl rfl (y_index rfl rfl sl34 hp2 (by omega) (by omega)) ?_
    refine rw_p rfl rfl (y_el1 rfl sc22 (hp2 ▸ hq.extN hm.to hqa).nt encS_len hi rfl) ?_
    refine rw_p rfl rfl (y_assign rfl) ?_
    refine rw_done ?_
    refine gn_sq ?_
    refine HW_text (.pure 0 (.pure 1 (.pure 2 (.pure 3 (.act 4 .done))))) (by kernel_rfl) ?_
    refine rw_p rfl rfl (y_move rfl) ?_
    refine rw_p rfl rfl (y_nil rfl) ?_
    refine rw_p rfl rfl (y_fieldAddr rfl fo54_0) ?_
    refine rw_p rfl rfl (y_move rfl) ?_
    refine a_call rfl rfl rfl go25 (h_take s.bs s.p s.cap TT m _ Z_h _ hm.ownZ hz_h (by rw [List.length_append]; omega) ((hps s hsm).extN hm.to (hpa s hsm)) (hm.apartX (hps s hsm) (hpa s hsm)) (by omega)) fun v w hR => ?_
    obtain ⟨rfl, Z_h, hz_h, hmc⟩ := hR
    refine ⟨trivial, ?_⟩
    replace hm := Mem.callZL (A := []) hm hmc
    refine rw_done ?_
    refine gn_bl ?_
    refine gn_sq ?_
    refine HW_text (.pure 0 (.pure 1 .done)) (by kernel_rfl) ?_
    refine rw_p rfl rfl (y_add rfl rfl (i64w (by omega) (by omega))) ?_
    refine rw_p rfl rfl (y_move rfl) ?_
    refine rw_done ?_
    refine next (x + 1, Z_h) (by simp only; omega) ⟨hm, by simp only; rw [hft, ← List.append_assoc]; exact hz_h, by simp only; omega⟩ ⟨nx x, rfl, rfl, rfl, rfl, rfl, trivial⟩
  ·
    obtain ⟨x, Z_h⟩ := x
    simp only at hm hz_h hk hc1 ⊢
    simp only [decide_eq_false_iff_not] at hc1
    obtain rfl : x = ps.length := by omega
    rw [List.take_length] at hz_h
    refine HW_exit rfl ?_
    refine gx_sq (gx_lp ?_)
    refine gx_here ?_
    refine gn_sq ?_
    refine HW_seq rfl ?_
    refine HW_text (.pure 0 (.pure 1 (.pure 2 (.pure 3 (.pure 4 (.pure 5 (.pure 6 (.pure 7 .done)))))))) (by kernel_rfl) ?_
    refine rw_p rfl rfl (y_move rfl) ?_
    obtain ⟨rv_, hPn⟩ := hz_h.row hm.ownZ
    refine rw_p rfl rfl (y_nil rfl) ?_
    refine rw_p rfl rfl (y_fieldAddr rfl fo54_0) ?_
    refine rw_p rfl rfl (y_fieldAddr rfl fo51_2) ?_
    refine rw_p rfl rfl (y_load rfl sc3 (nowT hPn) rfl) ?_
    refine rw_p rfl rfl (y_move rfl) ?_
    refine rw_p rfl rfl (y_sub rfl rfl ((subK _ (by rw [List.length_append]; omega) (by rw [List.length_append]; omega)).trans (show _ = (((ps.flatMap (·.bs)).length : Nat) : Int) by rw [List.length_append, Nat.add_sub_cancel_left]))) ?_
    refine rw_p rfl rfl (y_assign rfl) ?_
    refine rw_done ?_
    refine gn_sq ?_
    refine HW_ret rfl ?_
    refine toR (fin hret rfl (.tmp rfl .nil) .one ?_)
    exact ⟨rfl, Z_h, hz_h, hm⟩

theorem h_writeN (q : Option Addr) (n cq : Nat) (w0 : World) : C Try.prog 13 [.pointer none, .slice q n cq] w0 fun v w' => v = .int .i64 0 ∧ Ext No w0 w' := by
  refine C_of Try.func13 rfl rfl rfl fun κ hret hnorm => ?_
  have hm := Mem.start w0
  refine HW_seq rfl ?_
  refine HW_text (.pure 0 .done) (by kernel_rfl) ?_
  refine rw_p rfl rfl (y_assign rfl) ?_
  refine rw_done ?_
  refine gn_sq ?_
  refine HW_seq rfl ?_
  refine HW_seq rfl ?_
  refine HW_text (.pure 0 (.pure 1 .done)) (by kernel_rfl) ?_
  refine rw_p rfl rfl (y_move rfl) ?_
  refine rw_p rfl rfl (y_pnil rfl rfl pb28) ?_
  refine rw_done ?_
  refine gn_sq ?_
  refine HW_condT rfl rfl rfl ?_
  refine HW_seq rfl ?_
  refine HW_text (.pure 0 .done) (by kernel_rfl) ?_
  refine rw_p rfl rfl (y_assign rfl) ?_
  refine rw_done ?_
  refine gn_sq ?_
  refine HW_ret rfl ?_
  refine gr_sq ?_
  refine toR (fin hret rfl (.tmp rfl .nil) .one ?_)
  exact ⟨rfl, hm.to⟩

set_option maxHeartbeats 800000 in
theorem h_sum (TT m : Nat) (msg : List UInt8) (Z : List (Nat × Blk)) (w0 : World) (hZ : OwnZ w0 Z) (hz : HashZ TT 5 msg m Z) (hml : msg.length ≤ 1000000000000) : C Try.prog 14 [.pointer (some ⟨m, 0, none⟩)] w0 fun v w' => v = .agg ⟨(Pl.sha msg).flatMap encB⟩ ∧ Ext No w0 w' := by
  refine C_of Try.func14 rfl rfl rfl fun κ hret hnorm => ?_
  have hm := Mem.start w0
  refine HW_seq rfl ?_
  refine HW_text (.act 0 .done) (by kernel_rfl) ?_
  refine a_alloc rfl rfl z24 hm trivial fun m1 w hg_m1 hm hh => ?_
  refine rw_done ?_
  refine gn_sq ?_
  refine HW_seq rfl ?_
  refine HW_seq rfl ?_
  refine HW_text (.pure 0 (.pure 1 .done)) (by kernel_rfl) ?_
  refine rw_p rfl rfl (y_move rfl) ?_
  refine rw_p rfl rfl (y_pnil rfl rfl pb28) ?_
  refine rw_done ?_
  refine gn_sq ?_
  refine HW_condF rfl rfl rfl ?_
  refine HW_skip rfl ?_
  refine gn_sq ?_
  refine HW_seq rfl ?_
  refine HW_text (.pure 0 (.pure 1 (.pure 2 (.act 3 (.act 4 (.act 5 .done)))))) (by kernel_rfl) ?_
  refine rw_p rfl rfl (y_move rfl) ?_
  refine rw_p rfl rfl (y_nil rfl) ?_
  refine rw_p rfl rfl (y_fieldAddr rfl fo54_0) ?_
  refine a_call rfl rfl rfl go26 (h_copied TT m msg Z _ (hZ.ext hm.to) hz hml) fun v w hR => ?_
  obtain ⟨p_s, cap_s, g_s, b_s, rfl, ha_s, hmc⟩ := hR
  refine ⟨trivial, ?_⟩
  replace hm := hm.callN hmc
  refine a_alloc rfl rfl z51 hm trivial fun m2 w hg_m2 hm hh => ?_
  refine a_store rfl rfl rfl rfl sz51 rfl hm 0 rfl rfl fun w hm => ?_
  refine rw_done ?_
  refine gn_sq ?_
  refine HW_seq rfl ?_
  refine HW_text (.act 0 (.act 1 .done)) (by kernel_rfl) ?_
  refine a_call rfl rfl rfl go27 (h_finish 51 m2 msg _ _ (OwnZ.left (A := [_, _]) hm.ownZ) ⟨p_s, cap_s, g_s, b_s, rfl, ha_s.o⟩ hml) fun v w hR => ?_
  obtain ⟨rfl, Z9, hmc⟩ := hR
  refine ⟨trivial, ?_⟩
  replace hm := (Mem.callZ (Z := [_, _]) hm hmc).right
  refine a_store rfl rfl rfl rfl (sz24.trans (congrArg some (lenB32 (Pl.sha_len _)).symm)) (oneB _) hm 0 rfl (by rw [Nat.ble_eq, lenB32 (Pl.sha_len _)]; exact Nat.le_refl 32) fun w hm => ?_
  rw [upds_z32 (Pl.sha_len _)] at hm
  refine rw_done ?_
  refine gn_sq ?_
  refine HW_ret rfl ?_
  refine toR (fin hret rfl (.cell rfl (run_loadVar_a (vs := ((Pl.sha msg).flatMap encB)) ag24 (hm.get (k := 0) rfl) (nthsB (Pl.sha_len _))) .nil) .one ?_)
  exact ⟨rfl, hm.to⟩

theorem h_sumN (w0 : World) : C Try.prog 14 [.pointer none] w0 fun v w' => v = .agg ⟨(List.replicate 32 (0 : UInt8)).flatMap encB⟩ ∧ Ext No w0 w' := by
  refine C_of Try.func14 rfl rfl rfl fun κ hret hnorm => ?_
  have hm := Mem.start w0
  refine HW_seq rfl ?_
  refine HW_text (.act 0 .done) (by kernel_rfl) ?_
  refine a_alloc rfl rfl z24 hm trivial fun m1 w hg_m1 hm hh => ?_
  refine rw_done ?_
  refine gn_sq ?_
  refine HW_seq rfl ?_
  refine HW_seq rfl ?_
  refine HW_text (.pure 0 (.pure 1 .done)) (by kernel_rfl) ?_
  refine rw_p rfl rfl (y_move rfl) ?_
  refine rw_p rfl rfl (y_pnil rfl rfl pb28) ?_
  refine rw_done ?_
  refine gn_sq ?_
  refine HW_condT rfl rfl rfl ?_
  refine HW_seq rfl ?_
  refine HW_text (.pure 0 (.act 1 .done)) (by kernel_rfl) ?_
  refine rw_p rfl rfl (y_build (cs := [_, _, _, _, _, _, _, _, _, _, _, _, _, _, _, _, _, _, _, _, _, _, _, _, _, _, _, _, _, _, _, _]) z24 ft24 rfl rfl rfl rfl rfl) ?_
  refine a_store rfl rfl rfl rfl sz24 rfl hm 0 rfl rfl fun w hm => ?_
  refine rw_done ?_
  refine gn_sq ?_
  refine HW_ret rfl ?_
  refine gr_sq ?_
  refine toR (fin hret rfl (.cell rfl (run_loadVar_a (vs := [_, _, _, _, _, _, _, _, _, _, _, _, _, _, _, _, _, _, _, _, _, _, _, _, _, _, _, _, _, _, _, _]) ag24 (hm.get (k := 0) rfl) rfl) .nil) .one ?_)
  exact ⟨rfl, hm.to⟩

theorem h_len (TT m : Nat) (msg : List UInt8) (Z : List (Nat × Blk)) (w0 : World) (hZ : OwnZ w0 Z) (hz : HashZ TT 5 msg m Z) (hml : msg.length ≤ 1000000000000) : C Try.prog 15 [.pointer (some ⟨m, 0, none⟩)] w0 fun v w' => v = .int .i64 (msg.length : Int) ∧ Ext No w0 w' := by
  obtain ⟨rv_, hPn⟩ := hz.row hZ
  refine C_of Try.func15 rfl rfl rfl fun κ hret hnorm => ?_
  have hm := Mem.start w0
  refine HW_seq rfl ?_
  refine HW_text (.pure 0 .done) (by kernel_rfl) ?_
  refine rw_p rfl rfl (y_assign rfl) ?_
  refine rw_done ?_
  refine gn_sq ?_
  refine HW_seq rfl ?_
  refine HW_seq rfl ?_
  refine HW_text (.pure 0 (.pure 1 .done)) (by kernel_rfl) ?_
  refine rw_p rfl rfl (y_move rfl) ?_
  refine rw_p rfl rfl (y_pnil rfl rfl pb28) ?_
  refine rw_done ?_
  refine gn_sq ?_
  refine HW_condF rfl rfl rfl ?_
  refine HW_skip rfl ?_
  refine gn_sq ?_
  refine HW_seq rfl ?_
  refine HW_text (.pure 0 (.pure 1 (.pure 2 (.pure 3 (.pure 4 (.pure 5 .done)))))) (by kernel_rfl) ?_
  refine rw_p rfl rfl (y_move rfl) ?_
  refine rw_p rfl rfl (y_nil rfl) ?_
  refine rw_p rfl rfl (y_fieldAddr rfl fo54_0) ?_
  refine rw_p rfl rfl (y_fieldAddr rfl fo51_2) ?_
  refine rw_p rfl rfl (y_load rfl sc3 (nowT hPn) rfl) ?_
  refine rw_p rfl rfl (y_assign rfl) ?_
  refine rw_done ?_
  refine gn_sq ?_
  refine HW_ret rfl ?_
  refine toR (fin hret rfl (.tmp rfl .nil) .one ?_)
  exact ⟨rfl, hm.to⟩

theorem h_lenN (w0 : World) : C Try.prog 15 [.pointer none] w0 fun v w' => v = .int .i64 0 ∧ Ext No w0 w' := by
  refine C_of Try.func15 rfl rfl rfl fun κ hret hnorm => ?_
  have hm := Mem.start w0
  refine HW_seq rfl ?_
  refine HW_text (.pure 0 .done) (by kernel_rfl) ?_
  refine rw_p rfl rfl (y_assign rfl) ?_
  refine rw_done ?_
  refine gn_sq ?_
  refine HW_seq rfl ?_
  refine HW_seq rfl ?_
  refine HW_text (.pure 0 (.pure 1 .done)) (by kernel_rfl) ?_
  refine rw_p rfl rfl (y_move rfl) ?_
  refine rw_p rfl rfl (y_pnil rfl rfl pb28) ?_
  refine rw_done ?_
  refine gn_sq ?_
  refine HW_condT rfl rfl rfl ?_
  refine HW_seq rfl ?_
  refine HW_text (.pure 0 .done) (by kernel_rfl) ?_
  refine rw_p rfl rfl (y_assign rfl) ?_
  refine rw_done ?_
  refine gn_sq ?_
  refine HW_ret rfl ?_
  refine gr_sq ?_
  refine toR (fin hret rfl (.tmp rfl .nil) .one ?_)
  exact ⟨rfl, hm.to⟩

theorem h_clone (TT m : Nat) (msg : List UInt8) (Z : List (Nat × Blk)) (w0 : World) (hZ : OwnZ w0 Z) (hz : HashZ TT 5 msg m Z) (hml : msg.length ≤ 1000000000000) : C Try.prog 16 [.pointer (some ⟨m, 0, none⟩)] w0 fun v w' => ∃ m' Z', v = .pointer (some ⟨m', 0, none⟩) ∧ HashZ 54 5 msg m' Z' ∧ Mem w0 w' No Z' := by
  refine C_of Try.func16 rfl rfl rfl fun κ hret hnorm => ?_
  have hm := Mem.start w0
  refine HW_seq rfl ?_
  refine HW_text (.pure 0 .done) (by kernel_rfl) ?_
  refine rw_p rfl rfl (y_assign rfl) ?_
  refine rw_done ?_
  refine gn_sq ?_
  refine HW_seq rfl ?_
  refine HW_seq rfl ?_
  refine HW_text (.pure 0 (.pure 1 .done)) (by kernel_rfl) ?_
  refine rw_p rfl rfl (y_move rfl) ?_
  refine rw_p rfl rfl (y_pnil rfl rfl pb28) ?_
  refine rw_done ?_
  refine gn_sq ?_
  refine HW_condF rfl rfl rfl ?_
  refine HW_skip rfl ?_
  refine gn_sq ?_
  refine HW_seq rfl ?_
  refine HW_text (.pure 0 (.pure 1 (.pure 2 (.act 3 (.pure 4 (.act 5 (.pure 6 .done))))))) (by kernel_rfl) ?_
  refine rw_p rfl rfl (y_move rfl) ?_
  refine rw_p rfl rfl (y_nil rfl) ?_
  refine rw_p rfl rfl (y_fieldAddr rfl fo54_0) ?_
  refine a_call rfl rfl rfl go26 (h_copied TT m msg Z _ (hZ.ext hm.to) hz hml) fun v w hR => ?_
  obtain ⟨p_s, cap_s, g_s, b_s, rfl, ha_s, hmc⟩ := hR
  refine ⟨trivial, ?_⟩
  replace hm := hm.callN hmc
  refine rw_p rfl rfl (y_build (cs := [_, _, _, _, _, _, _, _, _, _]) z54 ft54 rfl rfl rfl rfl rfl) ?_
  refine a_box rfl rfl rfl rfl hm trivial fun m1 w hg_m1 hm hh => ?_
  refine rw_p rfl rfl (y_assign rfl) ?_
  refine rw_done ?_
  refine gn_sq ?_
  refine HW_ret rfl ?_
  refine toR (fin hret rfl (.tmp rfl .nil) .one ?_)
  exact ⟨_, _, rfl, ⟨p_s, cap_s, g_s, b_s, rfl, ha_s.o⟩, (hm.pick [0, 1] rfl)⟩

theorem h_cloneN (w0 : World) : C Try.prog 16 [.pointer none] w0 fun v w' => v = .pointer none ∧ Ext No w0 w' := by
  refine C_of Try.func16 rfl rfl rfl fun κ hret hnorm => ?_
  have hm := Mem.start w0
  refine HW_seq rfl ?_
  refine HW_text (.pure 0 .done) (by kernel_rfl) ?_
  refine rw_p rfl rfl (y_assign rfl) ?_
  refine rw_done ?_
  refine gn_sq ?_
  refine HW_seq rfl ?_
  refine HW_seq rfl ?_
  refine HW_text (.pure 0 (.pure 1 .done)) (by kernel_rfl) ?_
  refine rw_p rfl rfl (y_move rfl) ?_
  refine rw_p rfl rfl (y_pnil rfl rfl pb28) ?_
  refine rw_done ?_
  refine gn_sq ?_
  refine HW_condT rfl rfl rfl ?_
  refine HW_seq rfl ?_
  refine HW_text (.pure 0 .done) (by kernel_rfl) ?_
  refine rw_p rfl rfl (y_assign rfl) ?_
  refine rw_done ?_
  refine gn_sq ?_
  refine HW_ret rfl ?_
  refine gr_sq ?_
  refine toR (fin hret rfl (.tmp rfl .nil) .one ?_)
  exact ⟨rfl, hm.to⟩

set_option maxHeartbeats 400000 in
theorem h_of (q : Option Addr) (cq : Nat) (ps : List SB) (w0 : World) (hq : Rd w0 q (ps.flatMap encS)) (hps : ∀ s ∈ ps, Rd w0 s.p (s.bs.flatMap encB)) (hl : ps.length ≤ 1000000000000) (hbl : (ps.flatMap (·.bs)).length ≤ 1000000000000) : C Try.prog 10 [.slice q ps.length cq] w0 fun v w' => v = .agg ⟨(Pl.sha (ps.flatMap (·.bs))).flatMap encB⟩ ∧ Ext No w0 w' := by
  have hdl := Pl.sha_len (ps.flatMap (·.bs))
  obtain ⟨dg, hdg⟩ : ∃ d, Pl.sha (ps.flatMap (·.bs)) = d := ⟨_, rfl⟩
  rw [hdg] at hdl ⊢
  refine C_of Try.func10 rfl rfl rfl fun κ hret hnorm => ?_
  have hm := Mem.start w0
  refine HW_seq rfl ?_
  refine HW_text (.act 0 .done) (by kernel_rfl) ?_
  refine a_alloc rfl rfl z24 hm trivial fun m1 w hg_m1 hm hh => ?_
  refine rw_done ?_
  refine gn_sq ?_
  refine HW_seq rfl ?_
  refine HW_text (.act 0 (.pure 1 .done)) (by kernel_rfl) ?_
  refine a_call rfl rfl rfl go12 (h_new _) fun v w hR => ?_
  obtain ⟨m_h, Z_h, rfl, hz_h, hmc⟩ := hR
  refine ⟨trivial, ?_⟩
  replace hm := Mem.callTZ hm hmc
  refine rw_p rfl rfl (y_assign rfl) ?_
  refine rw_done ?_
  refine gn_sq ?_
  refine HW_seq rfl ?_
  refine HW_text (.pure 0 (.pure 1 (.act 2 .done))) (by kernel_rfl) ?_
  refine rw_p rfl rfl (y_move rfl) ?_
  refine rw_p rfl rfl (y_move rfl) ?_
  refine a_call rfl rfl rfl go13 (h_write q cq ps 54 m_h [] Z_h _ (OwnZ.right (A := [_]) hm.ownZ) hz_h (Nat.zero_le _) (hq.ext0 hm.to) (fun s hs => (hps s hs).ext0 hm.to) ((Mem.right (L := [_]) hm).apartX hq (fun _ _ _ h => h)) (fun s hs => (Mem.right (L := [_]) hm).apartX (hps s hs) (fun _ _ _ h => h)) hl (by rw [List.length_nil]; omega)) fun v w hR => ?_
  obtain ⟨rfl, Z_h, hz_h, hmc⟩ := hR
  refine ⟨trivial, ?_⟩
  replace hm := Mem.callZL (A := [_]) hm hmc
  rw [List.nil_append] at hz_h
  refine rw_done ?_
  refine gn_sq ?_
  refine HW_seq rfl ?_
  refine HW_text (.pure 0 (.act 1 (.act 2 .done))) (by kernel_rfl) ?_
  refine rw_p rfl rfl (y_move rfl) ?_
  refine a_call rfl rfl rfl go14 (C.as (v := .agg ⟨dg.flatMap encB⟩) (h_sum 54 m_h _ Z_h _ (OwnZ.right (A := [_]) hm.ownZ) hz_h hbl) (by rw [hdg])) fun v w hR => ?_
  obtain ⟨rfl, hE⟩ := hR
  refine ⟨trivial, ?_⟩
  replace hm := hm.ext hE
  refine a_store rfl rfl rfl rfl (sz24.trans (congrArg some (lenB32 hdl).symm)) (oneB _) hm 0 rfl (by rw [Nat.ble_eq, lenB32 hdl]; exact Nat.le_refl 32) fun w hm => ?_
  rw [upds_z32 hdl] at hm
  refine rw_done ?_
  refine gn_sq ?_
  refine HW_ret rfl ?_
  refine toR (fin hret rfl (.cell rfl (run_loadVar_a (vs := ((dg).flatMap encB)) ag24 (hm.get (k := 0) rfl) (nthsB hdl)) .nil) .one ?_)
  exact ⟨rfl, hm.to⟩

end Go.Proofs.Ytdiklnekplhhgaa
