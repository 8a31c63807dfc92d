/- Contracts of functions of the program: what each returns. Conditions: the hypotheses of each theorem. -/
import Derived.Test.YthailbggeafckaaJnF
import Derived.Test.YthailbggeafckaaPlK
set_option linter.unusedVariables false
set_option linter.unusedSimpArgs false
namespace Go.Proofs.Ythailbggeafckaa
open Go Go.Cx

theorem sz77 : szO Try.prog 77 = some 3 := by kernel_rfl
theorem go49 : isGo Try.prog 49 = true := by kernel_rfl
theorem go50 : isGo Try.prog 50 = true := by kernel_rfl
theorem fo29_0 : fldO Try.prog 29 0 = some 0 := by kernel_rfl
theorem fo29_1 : fldO Try.prog 29 1 = some 1 := by kernel_rfl
theorem fo29_2 : fldO Try.prog 29 2 = some 2 := by kernel_rfl
theorem go31 : isGo Try.prog 31 = true := by kernel_rfl
theorem go32 : isGo Try.prog 32 = true := by kernel_rfl

set_option maxHeartbeats 1600000 in
theorem j_format (D : Pl.Dv) (m : Nat) (Z : List (Nat × Blk)) (w0 : World) (hZ : OwnZ w0 Z) (hz : DevZ 100 144 5 D m Z) (f N : Nat) (b : Int) (hb : Pl.I64 b) (hN : Pl.slot (D.sz : Int) b = (N : Int)) (h0 : N ≠ 0) (h2 : f + 2 * N ≤ D.cnt) (hcl : D.ca.length + D.cnt ≤ 1000000000) : C Try.prog 19 [.pointer (some ⟨m, 0, none⟩), .int .i64 (f : Int), .int .i64 b] w0 fun v w' => v = .int .i64 (Pl.jfm D f N).1 ∧ ∃ Z', DevZ 100 144 5 (Pl.jfm D f N).2 m Z' ∧ Mem w0 w' (Mn (reals Z)) Z' := by
  have hok := hz.ok
  have o1 := hok.sz
  have o4 := hok.max
  have o3 := hok.cnt
  have o5 : D.cnt ≤ D.cnt * D.sz := Nat.le_mul_of_pos_right _ o1
  have o7 : D.sz ≤ D.cnt * D.sz := Nat.le_mul_of_pos_left _ o3
  refine C_of Try.func19 rfl rfl rfl fun κ hret hnorm => ?_
  have hm := hZ.start
  refine HW_seq rfl ?_
  refine HW_text (.pure 0 .done) (by kernel_rfl) ?_
  refine rw_p rfl rfl (y_assign rfl) ?_
  refine rw_done ?_
  refine gn_sq ?_
  refine HW_seq rfl ?_
  refine HW_text (.pure 0 (.pure 1 (.pure 2 (.pure 3 (.act 4 (.act 5 .done)))))) (by kernel_rfl) ?_
  refine rw_p rfl rfl (y_move rfl) ?_
  refine rw_p rfl rfl (y_move rfl) ?_
  refine rw_p rfl rfl (y_move rfl) ?_
  refine rw_p rfl rfl (y_build (cs := [_, _, _]) z77 ft77 rfl rfl rfl rfl rfl) ?_
  refine a_alloc rfl rfl z77 hm trivial fun m1 w hg_m1 hm hh => ?_
  refine a_store rfl rfl rfl rfl sz77 rfl hm 0 rfl rfl fun w hm => ?_
  refine rw_done ?_
  refine gn_sq ?_
  refine HW_seq rfl ?_
  refine HW_seq rfl ?_
  refine HW_text (.pure 0 (.act 1 (.pure 2 .done))) (by kernel_rfl) ?_
  refine rw_p rfl rfl (y_loadA (s := 3) (vs := [_, _, _]) rfl ag77 (hm.nt 0 rfl) rfl) ?_
  refine a_call rfl rfl rfl go33 (C.as (v := .int .i64 0) (jr_check D m Z _ (OwnZ.right (A := [_]) hm.ownZ) hz (f : Int) b (by simp only [Pl.I64]; omega) hb) (by rw [jcheck0 hN h0 h2])) fun v w hR => ?_
  obtain ⟨rfl, hE⟩ := hR
  refine ⟨trivial, ?_⟩
  replace hm := hm.ext hE
  refine rw_p rfl rfl (y_assign rfl) ?_
  refine rw_done ?_
  refine gn_sq ?_
  refine HW_seq rfl ?_
  refine HW_text (.pure 0 (.pure 1 .done)) (by kernel_rfl) ?_
  refine rw_p rfl rfl (y_move rfl) ?_
  refine rw_p rfl rfl (y_as (c := false) (y_ne rfl rfl) (by decide)) ?_
  refine rw_done ?_
  refine gn_sq ?_
  refine HW_condF rfl rfl rfl ?_
  refine HW_skip rfl ?_
  refine gn_sq ?_
  refine HW_seq rfl ?_
  refine HW_text (.pure 0 (.act 1 (.act 2 (.pure 3 .done)))) (by kernel_rfl) ?_
  refine rw_p rfl rfl (y_move rfl) ?_
  refine a_call rfl rfl rfl go46 (o_size D m Z _ (OwnZ.right (A := [_]) hm.ownZ) hz) fun v w hR => ?_
  obtain ⟨rfl, hE⟩ := hR
  refine ⟨trivial, ?_⟩
  replace hm := hm.ext hE
  refine a_make rfl rfl rfl rfl sl26 z5 rfl (by omega) (by omega) (by omega) hm trivial fun g_s w hg_s ha_s hm hh => ?_
  replace ha_s := ha_s.to (show _ = (List.replicate D.sz (0 : UInt8)).flatMap encB from repB D.sz)
  refine rw_p rfl rfl (y_assign rfl) ?_
  refine rw_done ?_
  refine gn_sq ?_
  refine HW_seq rfl ?_
  refine HW_seq rfl ?_
  refine HW_text (.pure 0 (.act 1 (.pure 2 (.pure 3 .done)))) (by kernel_rfl) ?_
  refine rw_p rfl rfl (y_loadA (s := 3) (vs := [_, _, _]) rfl ag77 (hm.nt 1 rfl) rfl) ?_
  refine a_call rfl rfl rfl go47 (C.as (v := .int .i64 (N : Int)) (jr_length D m Z _ (OwnZ.right (A := [_, _]) hm.ownZ) hz (f : Int) b hb) (by rw [hN])) fun v w hR => ?_
  obtain ⟨rfl, hE⟩ := hR
  refine ⟨trivial, ?_⟩
  replace hm := hm.ext hE
  refine rw_p rfl rfl (y_mul rfl rfl ((i64w (by omega) (by omega)).trans (show _ = ((2 * N : Nat) : Int) by omega))) ?_
  refine rw_p rfl rfl (y_move rfl) ?_
  refine rw_done ?_
  refine gn_sq ?_
  refine HW_block rfl ?_
  refine HW_loopK (ι := Nat × Pl.Dv × List (Nat × Blk)) rfl (ks := [0, 1, 9, 26]) (.cons rfl (.cons rfl (.cons rfl (.cons rfl .nil)))) (fun x => [(27, .int .i64 x.1)]) (fun x w => Mem w0 w (Mn (reals Z)) ((g_s, .row 5 (repZ [.int .u8 0] D.sz)) :: (m1, .row 77 [.pointer (some ⟨m, 0, none⟩), .int .i64 (f : Int), .int .i64 b]) :: x.2.2) ∧ DevZ 100 144 5 x.2.1 m x.2.2 ∧ (Pl.jfw f (2 * N) 0 D) = Pl.jfw f (2 * N - x.1) x.1 x.2.1 ∧ x.2.1.sz = D.sz ∧ x.2.1.cnt = D.cnt ∧ x.2.1.ca.length + (2 * N - x.1) ≤ 1000000000 ∧ x.1 ≤ 2 * N) (fun x => 2 * N - x.1) (0, D, Z) (⟨(hm.pickT [0, 1] 2 rfl), hz, by simp only; rw [Nat.sub_zero], rfl, rfl, by simp only; omega, Nat.zero_le _⟩) ⟨rfl, trivial⟩ (fun x w hM => ?_)
  obtain ⟨hm, hz9, hR9, hsz, hct, hca, hhi⟩ := hM
  obtain ⟨i, D9, Z9⟩ := x
  simp only at hm hz9 hR9 hsz hct hca hhi ⊢
  have hjz : (Pl.jz D9) = List.replicate D.sz 0 := by unfold Pl.jz; rw [hsz]
  have hjl : (Pl.jz D9).length = D.sz := by rw [hjz, List.length_replicate]
  refine HW_seq rfl ?_
  refine HW_text (.pure 0 .done) (by kernel_rfl) ?_
  refine rw_p rfl rfl (y_lt rfl rfl) ?_
  refine rw_done ?_
  refine gn_sq ?_
  refine HW_seq rfl ?_
  refine HW_cond rfl rfl (fun hc1 => ?_) (fun hc1 => ?_)
  ·
    simp only [decide_eq_true_eq] at hc1
    have hws := Pl.wDv_sz D9 ((f + i : Nat) : Int) (Pl.jz D9)
    have hst : 2 * N - i = (2 * N - (i + 1)) + 1 := by omega
    refine HW_skip rfl ?_
    refine gn_sq ?_
    refine HW_seq rfl ?_
    refine HW_block rfl ?_
    refine HW_seq rfl ?_
    refine HW_text (.pure 0 (.pure 1 .done)) (by kernel_rfl) ?_
    refine rw_p rfl rfl (y_move rfl) ?_
    refine rw_p rfl rfl (y_assign rfl) ?_
    refine rw_done ?_
    refine gn_sq ?_
    refine HW_seq rfl ?_
    refine HW_text (.pure 0 (.pure 1 (.pure 2 (.pure 3 (.pure 4 (.act 5 (.pure 6 .done))))))) (by kernel_rfl) ?_
    refine rw_p rfl rfl (y_move rfl) ?_
    refine rw_p rfl rfl (y_move rfl) ?_
    refine rw_p rfl rfl (y_move rfl) ?_
    refine rw_p rfl rfl (y_add rfl rfl (addK _ (by omega))) ?_
    refine rw_p rfl rfl (y_move rfl) ?_
    refine a_call rfl rfl rfl go48 (C.eqv (o_write D9 m Z9 _ (OwnZ.right (A := [_, _]) hm.ownZ) hz9 (some ⟨g_s, 0, none⟩) D.sz (Pl.jz D9) ((f + i : Nat) : Int) (by rw [hjz]; exact ha_s.rd hm 0 rfl) (by rw [hjz]; exact hm.notR (A := [_, _]) ha_s 0 rfl) (by rw [hjl]; exact ha_s.le) (by omega)) (by rw [hjl])) fun v w hR => ?_
    obtain ⟨rfl, Z2, hz2, hmc⟩ := hR
    refine ⟨trivial, ?_⟩
    replace hm := Mem.callZL (A := [_, _]) hm hmc
    refine rw_p rfl rfl (y_assign rfl) ?_
    refine rw_done ?_
    refine gn_sq ?_
    refine HW_seq rfl ?_
    refine HW_text (.pure 0 (.pure 1 .done)) (by kernel_rfl) ?_
    refine rw_p rfl rfl (y_move rfl) ?_
    refine rw_p rfl rfl (y_ne rfl rfl) ?_
    refine rw_done ?_
    refine gn_sq ?_
    refine HW_cond rfl rfl (fun hc2 => ?_) (fun hc2 => ?_)
    ·
      simp only [decide_eq_true_eq] at hc2
      have hRR : (Pl.jfw f (2 * N) 0 D) = (Pl.wCode D9 ((f + i : Nat) : Int) (Pl.jz D9), Pl.wDv D9 ((f + i : Nat) : Int) (Pl.jz D9)) := by rw [hR9, hst]; unfold Pl.jfw; rw [if_pos hc2]
      have hF : Pl.jfm D f N = (Pl.wCode D9 ((f + i : Nat) : Int) (Pl.jz D9), Pl.wDv D9 ((f + i : Nat) : Int) (Pl.jz D9)) := by unfold Pl.jfm; rw [hRR, if_pos hc2]
      refine HW_seq rfl ?_
      refine HW_text (.pure 0 (.pure 1 .done)) (by kernel_rfl) ?_
      refine rw_p rfl rfl (y_move rfl) ?_
      refine rw_p rfl rfl (y_assign rfl) ?_
      refine rw_done ?_
      refine gn_sq ?_
      refine HW_ret rfl ?_
      refine gr_bl (gr_sq (gr_lp (gr_bl (gr_sq ?_))))
      refine toR (fin hret rfl (.tmp rfl .nil) .one ?_)
      exact ⟨by rw [hF], Z2, by rw [hF]; exact hz2, (hm.pickT [] 2 rfl)⟩
    ·
      simp only [decide_eq_false_iff_not, Decidable.not_not] at hc2
      have hRR : (Pl.jfw f (2 * N) 0 D) = Pl.jfw f (2 * N - (i + 1)) (i + 1) (Pl.wDv D9 ((f + i : Nat) : Int) (Pl.jz D9)) := by
        rw [hR9, hst]
        conv => lhs; unfold Pl.jfw
        rw [if_neg (by omega)]
      have hca2 : (Pl.wDv D9 ((f + i : Nat) : Int) (Pl.jz D9)).ca.length + (2 * N - (i + 1)) ≤ 1000000000 := by omega
      refine HW_skip rfl ?_
      refine gn_bl ?_
      refine gn_sq ?_
      refine HW_text (.pure 0 (.pure 1 .done)) (by kernel_rfl) ?_
      refine rw_p rfl rfl (y_add rfl rfl (i64w (by omega) (by omega))) ?_
      refine rw_p rfl rfl (y_move rfl) ?_
      refine rw_done ?_
      exact next (i + 1, _, Z2) (by simp only; omega) ⟨(hm.pickT [0, 1] 2 rfl), hz2, hRR, hws.1.trans hsz, hws.2.1.trans hct, hca2, by simp only; omega⟩ ⟨nx i, rfl, rfl, rfl, rfl, trivial⟩
  ·
    simp only [decide_eq_false_iff_not] at hc1
    have hie : i = 2 * N := by omega
    have hRR : (Pl.jfw f (2 * N) 0 D) = (0, D9) := by rw [hR9, hie, Nat.sub_self]; rfl
    refine HW_exit rfl ?_
    refine gx_sq (gx_lp ?_)
    refine gx_here ?_
    refine gn_sq ?_
    refine HW_seq rfl ?_
    refine HW_text (.pure 0 (.act 1 (.pure 2 .done))) (by kernel_rfl) ?_
    refine rw_p rfl rfl (y_move rfl) ?_
    refine a_call rfl rfl rfl go42 (o_flush D9 m Z9 _ (OwnZ.right (A := [_, _]) hm.ownZ) hz9 (by omega)) fun v w hR => ?_
    obtain ⟨rfl, Z2, hz2, hmc⟩ := hR
    refine ⟨trivial, ?_⟩
    replace hm := Mem.callZL (A := [_, _]) hm hmc
    refine rw_p rfl rfl (y_assign rfl) ?_
    refine rw_done ?_
    refine gn_sq ?_
    refine HW_ret rfl ?_
    refine toR (fin hret rfl (.tmp rfl .nil) .one ?_)
    have hF : Pl.jfm D f N = (Pl.fCode D9, Pl.fDv D9) := by unfold Pl.jfm; rw [hRR]; rfl
    exact ⟨by rw [hF], Z2, by rw [hF]; exact hz2, (hm.pickT [] 2 rfl)⟩

set_option maxHeartbeats 1600000 in
theorem r22_format (D : Pl.Dv) (m : Nat) (Z : List (Nat × Blk)) (w0 : World) (hZ : OwnZ w0 Z) (hz : RefZ 59 146 5 D m Z) (f N : Nat) (b : Int) (hb : Pl.I64 b) (hN : Pl.slot (D.sz : Int) b = (N : Int)) (h0 : N ≠ 0) (h2 : f + 2 * N ≤ D.cnt) (hcl : D.ca.length + D.cnt ≤ 1000000000) : C Try.prog 20 [.pointer (some ⟨m, 0, none⟩), .int .i64 (f : Int), .int .i64 b] w0 fun v w' => v = .int .i64 (Pl.jfm D f N).1 ∧ ∃ Z', RefZ 59 146 5 (Pl.jfm D f N).2 m Z' ∧ Mem w0 w' (Mn (reals Z)) Z' := by
  have hok := hz.ok
  have o1 := hok.sz
  have o4 := hok.max
  have o3 := hok.cnt
  have o5 : D.cnt ≤ D.cnt * D.sz := Nat.le_mul_of_pos_right _ o1
  have o7 : D.sz ≤ D.cnt * D.sz := Nat.le_mul_of_pos_left _ o3
  refine C_of Try.func20 rfl rfl rfl fun κ hret hnorm => ?_
  have hm := hZ.start
  refine HW_seq rfl ?_
  refine HW_text (.pure 0 .done) (by kernel_rfl) ?_
  refine rw_p rfl rfl (y_assign rfl) ?_
  refine rw_done ?_
  refine gn_sq ?_
  refine HW_seq rfl ?_
  obtain ⟨pbY, cbY, pcY, ccY, csY, hPy, -⟩ := hz.row (OwnZ.right (A := []) hm.ownZ)
  ·
    refine HW_text (.pure 0 (.pure 1 (.pure 2 (.pure 3 (.pure 4 (.act 5 (.pure 6 (.pure 7 .done)))))))) (by kernel_rfl) ?_
    refine rw_p rfl rfl (y_move rfl) ?_
    refine rw_p rfl rfl (y_nil rfl) ?_
    refine rw_p rfl rfl (y_fieldAddr rfl fo59_0) ?_
    refine rw_p rfl rfl (y_load rfl sc3 (nowT hPy) rfl) ?_
    refine rw_p rfl rfl (y_move rfl) ?_
    refine a_call rfl rfl rfl go8 (C.as (v := .int .i64 (N : Int)) (r22_slot (D.sz : Int) b _ (by simp only [Pl.I64]; omega) hb) (by rw [hN])) fun v w hR => ?_
    obtain ⟨rfl, hE⟩ := hR
    refine ⟨trivial, ?_⟩
    replace hm := hm.ext hE
    refine rw_p rfl rfl (y_mul rfl rfl ((i64w (by omega) (by omega)).trans (show _ = ((2 * N : Nat) : Int) by omega))) ?_
    refine rw_p rfl rfl (y_assign rfl) ?_
    refine rw_done ?_
    refine gn_sq ?_
    refine HW_seq rfl ?_
    refine HW_seq rfl ?_
    refine HW_text (.pure 0 .done) (by kernel_rfl) ?_
    refine rw_p rfl rfl (y_assign rfl) ?_
    refine rw_done ?_
    refine gn_sq ?_
    refine HW_block rfl ?_
    refine HW_loopK (ι := Nat × Pl.Dv × List (Nat × Blk)) rfl (ks := [0, 1, 7]) (.cons rfl (.cons rfl (.cons rfl .nil))) (fun x => [(8, .int .i64 x.1)]) (fun x w => Mem w0 w (Mn (reals Z)) (x.2.2) ∧ RefZ 59 146 5 x.2.1 m x.2.2 ∧ (Pl.jfw f (2 * N) 0 D) = Pl.jfw f (2 * N - x.1) x.1 x.2.1 ∧ x.2.1.sz = D.sz ∧ x.2.1.cnt = D.cnt ∧ x.2.1.ca.length + (2 * N - x.1) ≤ 1000000000 ∧ x.1 ≤ 2 * N) (fun x => 2 * N - x.1) (0, D, Z) (⟨(hm.pickT [] 0 rfl), hz, by simp only; rw [Nat.sub_zero], rfl, rfl, by simp only; omega, Nat.zero_le _⟩) ⟨rfl, trivial⟩ (fun x w hM => ?_)
    obtain ⟨hm, hz9, hR9, hsz, hct, hca, hhi⟩ := hM
    obtain ⟨i, D9, Z9⟩ := x
    simp only at hm hz9 hR9 hsz hct hca hhi ⊢
    have hjz : (Pl.jz D9) = List.replicate D.sz 0 := by unfold Pl.jz; rw [hsz]
    have hjl : (Pl.jz D9).length = D.sz := by rw [hjz, List.length_replicate]
    refine HW_seq rfl ?_
    refine HW_seq rfl ?_
    refine HW_text (.pure 0 (.pure 1 (.pure 2 .done))) (by kernel_rfl) ?_
    refine rw_p rfl rfl (y_move rfl) ?_
    refine rw_p rfl rfl (y_move rfl) ?_
    refine rw_p rfl rfl (y_lt rfl rfl) ?_
    refine rw_done ?_
    refine gn_sq ?_
    refine HW_cond rfl rfl (fun hc0 => ?_) (fun hc0 => ?_)
    ·
      simp only [decide_eq_true_eq] at hc0
      have hws := Pl.wDv_sz D9 ((f + i : Nat) : Int) (Pl.jz D9)
      have hst : 2 * N - i = (2 * N - (i + 1)) + 1 := by omega
      refine HW_skip rfl ?_
      refine gn_sq ?_
      refine HW_seq rfl ?_
      refine HW_block rfl ?_
      refine HW_seq rfl ?_
      obtain ⟨pbY, cbY, pcY, ccY, csY, hPy, -⟩ := hz9.row (OwnZ.right (A := []) hm.ownZ)
      ·
        refine HW_text (.pure 0 (.pure 1 (.pure 2 (.pure 3 (.pure 4 (.pure 5 (.pure 6 (.pure 7 (.act 8 (.act 9 (.pure 10 .done))))))))))) (by kernel_rfl) ?_
        refine rw_p rfl rfl (y_move rfl) ?_
        refine rw_p rfl rfl (y_move rfl) ?_
        refine rw_p rfl rfl (y_move rfl) ?_
        refine rw_p rfl rfl (y_add rfl rfl (addK _ (by omega))) ?_
        refine rw_p rfl rfl (y_move rfl) ?_
        refine rw_p rfl rfl (y_nil rfl) ?_
        refine rw_p rfl rfl (y_fieldAddr rfl fo59_0) ?_
        refine rw_p rfl rfl (y_v (y_load rfl sc3 (nowT hPy) rfl) (congrArg (fun n : Nat => Value.int .i64 (n : Int)) hsz)) ?_
        refine a_make rfl rfl rfl rfl sl26 z5 rfl (by omega) (by omega) (by omega) hm trivial fun g_s w hg_s ha_s hm hh => ?_
        replace ha_s := ha_s.to (show _ = (List.replicate D.sz (0 : UInt8)).flatMap encB from repB D.sz)
        refine a_call rfl rfl rfl go49 (C.eqv (q_put D9 m Z9 _ (OwnZ.right (A := [_]) hm.ownZ) hz9 (some ⟨g_s, 0, none⟩) D.sz (Pl.jz D9) ((f + i : Nat) : Int) (by rw [hjz]; exact ha_s.rd hm 0 rfl) (by rw [hjz]; exact hm.notR (A := [_]) ha_s 0 rfl) (by rw [hjl]; exact ha_s.le) (by omega)) (by rw [hjl])) fun v w hR => ?_
        obtain ⟨rfl, Z2, hz2, hmc⟩ := hR
        refine ⟨trivial, ?_⟩
        replace hm := Mem.callZL (A := [_]) hm hmc
        refine rw_p rfl rfl (y_assign rfl) ?_
        refine rw_done ?_
        refine gn_sq ?_
        refine HW_seq rfl ?_
        refine HW_text (.pure 0 (.pure 1 .done)) (by kernel_rfl) ?_
        refine rw_p rfl rfl (y_move rfl) ?_
        refine rw_p rfl rfl (y_ne rfl rfl) ?_
        refine rw_done ?_
        refine gn_sq ?_
        refine HW_cond rfl rfl (fun hc1 => ?_) (fun hc1 => ?_)
        ·
          simp only [decide_eq_true_eq] at hc1
          have hRR : (Pl.jfw f (2 * N) 0 D) = (Pl.wCode D9 ((f + i : Nat) : Int) (Pl.jz D9), Pl.wDv D9 ((f + i : Nat) : Int) (Pl.jz D9)) := by rw [hR9, hst]; unfold Pl.jfw; rw [if_pos hc1]
          have hF : Pl.jfm D f N = (Pl.wCode D9 ((f + i : Nat) : Int) (Pl.jz D9), Pl.wDv D9 ((f + i : Nat) : Int) (Pl.jz D9)) := by unfold Pl.jfm; rw [hRR, if_pos hc1]
          refine HW_seq rfl ?_
          refine HW_text (.pure 0 (.pure 1 .done)) (by kernel_rfl) ?_
          refine rw_p rfl rfl (y_move rfl) ?_
          refine rw_p rfl rfl (y_assign rfl) ?_
          refine rw_done ?_
          refine gn_sq ?_
          refine HW_ret rfl ?_
          refine gr_bl (gr_sq (gr_lp (gr_bl (gr_sq ?_))))
          refine toR (fin hret rfl (.tmp rfl .nil) .one ?_)
          exact ⟨by rw [hF], Z2, by rw [hF]; exact hz2, (hm.pickT [] 1 rfl)⟩
        ·
          simp only [decide_eq_false_iff_not, Decidable.not_not] at hc1
          have hRR : (Pl.jfw f (2 * N) 0 D) = Pl.jfw f (2 * N - (i + 1)) (i + 1) (Pl.wDv D9 ((f + i : Nat) : Int) (Pl.jz D9)) := by
            rw [hR9, hst]
            conv => lhs; unfold Pl.jfw
            rw [if_neg (by omega)]
          have hca2 : (Pl.wDv D9 ((f + i : Nat) : Int) (Pl.jz D9)).ca.length + (2 * N - (i + 1)) ≤ 1000000000 := by omega
          refine HW_skip rfl ?_
          refine gn_bl ?_
          refine gn_sq ?_
          refine HW_text (.pure 0 (.pure 1 (.pure 2 .done))) (by kernel_rfl) ?_
          refine rw_p rfl rfl (y_move rfl) ?_
          refine rw_p rfl rfl (y_add rfl rfl (i64w (by omega) (by omega))) ?_
          refine rw_p rfl rfl (y_assign rfl) ?_
          refine rw_done ?_
          exact next (i + 1, _, Z2) (by simp only; omega) ⟨(hm.pickT [] 1 rfl), hz2, hRR, hws.1.trans hsz, hws.2.1.trans hct, hca2, by simp only; omega⟩ ⟨nx i, rfl, rfl, rfl, trivial⟩
    ·
      simp only [decide_eq_false_iff_not] at hc0
      have hie : i = 2 * N := by omega
      have hRR : (Pl.jfw f (2 * N) 0 D) = (0, D9) := by rw [hR9, hie, Nat.sub_self]; rfl
      refine HW_exit rfl ?_
      refine gx_sq (gx_lp ?_)
      refine gx_here ?_
      refine gn_sq ?_
      refine HW_seq rfl ?_
      refine HW_text (.pure 0 (.act 1 (.pure 2 .done))) (by kernel_rfl) ?_
      refine rw_p rfl rfl (y_move rfl) ?_
      refine a_call rfl rfl rfl go50 (q_flush D9 m Z9 _ (OwnZ.right (A := []) hm.ownZ) hz9 (by omega)) fun v w hR => ?_
      obtain ⟨rfl, Z2, hz2, hmc⟩ := hR
      refine ⟨trivial, ?_⟩
      replace hm := Mem.callZL (A := []) hm hmc
      refine rw_p rfl rfl (y_assign rfl) ?_
      refine rw_done ?_
      refine gn_sq ?_
      refine HW_ret rfl ?_
      refine toR (fin hret rfl (.tmp rfl .nil) .one ?_)
      have hF : Pl.jfm D f N = (Pl.fCode D9, Pl.fDv D9) := by unfold Pl.jfm; rw [hRR]; rfl
      exact ⟨by rw [hF], Z2, by rw [hF]; exact hz2, (hm.pickT [] 0 rfl)⟩

theorem j_formatE (D : Pl.Dv) (m : Nat) (Z : List (Nat × Blk)) (w0 : World) (hZ : OwnZ w0 Z) (hz : DevZ 100 144 5 D m Z) (f b : Int) (hf : Pl.I64 f) (hb : Pl.I64 b) (hc : Pl.jcheck D f b ≠ 0) : C Try.prog 19 [.pointer (some ⟨m, 0, none⟩), .int .i64 f, .int .i64 b] w0 fun v w' => v = .int .i64 (Pl.jcheck D f b) ∧ Ext No w0 w' := by
  refine C_of Try.func19 rfl rfl rfl fun κ hret hnorm => ?_
  have hm := Mem.start w0
  refine HW_seq rfl ?_
  refine HW_text (.pure 0 .done) (by kernel_rfl) ?_
  refine rw_p rfl rfl (y_assign rfl) ?_
  refine rw_done ?_
  refine gn_sq ?_
  refine HW_seq rfl ?_
  refine HW_text (.pure 0 (.pure 1 (.pure 2 (.pure 3 (.act 4 (.act 5 .done)))))) (by kernel_rfl) ?_
  refine rw_p rfl rfl (y_move rfl) ?_
  refine rw_p rfl rfl (y_move rfl) ?_
  refine rw_p rfl rfl (y_move rfl) ?_
  refine rw_p rfl rfl (y_build (cs := [_, _, _]) z77 ft77 rfl rfl rfl rfl rfl) ?_
  refine a_alloc rfl rfl z77 hm trivial fun m1 w hg_m1 hm hh => ?_
  refine a_store rfl rfl rfl rfl sz77 rfl hm 0 rfl rfl fun w hm => ?_
  refine rw_done ?_
  refine gn_sq ?_
  refine HW_seq rfl ?_
  refine HW_seq rfl ?_
  refine HW_text (.pure 0 (.act 1 (.pure 2 .done))) (by kernel_rfl) ?_
  refine rw_p rfl rfl (y_loadA (s := 3) (vs := [_, _, _]) rfl ag77 (hm.nt 0 rfl) rfl) ?_
  refine a_call rfl rfl rfl go33 (jr_check D m Z _ (hZ.ext hm.to) hz f b hf hb) fun v w hR => ?_
  obtain ⟨rfl, hE⟩ := hR
  refine ⟨trivial, ?_⟩
  replace hm := hm.ext hE
  refine rw_p rfl rfl (y_assign rfl) ?_
  refine rw_done ?_
  refine gn_sq ?_
  refine HW_seq rfl ?_
  refine HW_text (.pure 0 (.pure 1 .done)) (by kernel_rfl) ?_
  refine rw_p rfl rfl (y_move rfl) ?_
  refine rw_p rfl rfl (y_as (c := true) (y_ne rfl rfl) (decide_eq_true hc)) ?_
  refine rw_done ?_
  refine gn_sq ?_
  refine HW_condT rfl rfl rfl ?_
  refine HW_seq rfl ?_
  refine HW_text (.pure 0 (.pure 1 .done)) (by kernel_rfl) ?_
  refine rw_p rfl rfl (y_move rfl) ?_
  refine rw_p rfl rfl (y_assign rfl) ?_
  refine rw_done ?_
  refine gn_sq ?_
  refine HW_ret rfl ?_
  refine gr_sq ?_
  refine toR (fin hret rfl (.tmp rfl .nil) .one ?_)
  exact ⟨rfl, hm.to⟩

theorem j_formatN (f b : Int) (hb : Pl.I64 b) (w0 : World) : C Try.prog 19 [.pointer none, .int .i64 f, .int .i64 b] w0 fun v w' => v = .int .i64 1 ∧ Ext No w0 w' := by
  refine C_of Try.func19 rfl rfl rfl fun κ hret hnorm => ?_
  have hm := Mem.start w0
  refine HW_seq rfl ?_
  refine HW_text (.pure 0 .done) (by kernel_rfl) ?_
  refine rw_p rfl rfl (y_assign rfl) ?_
  refine rw_done ?_
  refine gn_sq ?_
  refine HW_seq rfl ?_
  refine HW_text (.pure 0 (.pure 1 (.pure 2 (.pure 3 (.act 4 (.act 5 .done)))))) (by kernel_rfl) ?_
  refine rw_p rfl rfl (y_move rfl) ?_
  refine rw_p rfl rfl (y_move rfl) ?_
  refine rw_p rfl rfl (y_move rfl) ?_
  refine rw_p rfl rfl (y_build (cs := [_, _, _]) z77 ft77 rfl rfl rfl rfl rfl) ?_
  refine a_alloc rfl rfl z77 hm trivial fun m1 w hg_m1 hm hh => ?_
  refine a_store rfl rfl rfl rfl sz77 rfl hm 0 rfl rfl fun w hm => ?_
  refine rw_done ?_
  refine gn_sq ?_
  refine HW_seq rfl ?_
  refine HW_seq rfl ?_
  refine HW_text (.pure 0 (.act 1 (.pure 2 .done))) (by kernel_rfl) ?_
  refine rw_p rfl rfl (y_loadA (s := 3) (vs := [_, _, _]) rfl ag77 (hm.nt 0 rfl) rfl) ?_
  refine a_call rfl rfl rfl go33 (jr_checkN f b hb _) fun v w hR => ?_
  obtain ⟨rfl, hE⟩ := hR
  refine ⟨trivial, ?_⟩
  replace hm := hm.ext hE
  refine rw_p rfl rfl (y_assign rfl) ?_
  refine rw_done ?_
  refine gn_sq ?_
  refine HW_seq rfl ?_
  refine HW_text (.pure 0 (.pure 1 .done)) (by kernel_rfl) ?_
  refine rw_p rfl rfl (y_move rfl) ?_
  refine rw_p rfl rfl (y_as (c := true) (y_ne rfl rfl) (by decide)) ?_
  refine rw_done ?_
  refine gn_sq ?_
  refine HW_condT rfl rfl rfl ?_
  refine HW_seq rfl ?_
  refine HW_text (.pure 0 (.pure 1 .done)) (by kernel_rfl) ?_
  refine rw_p rfl rfl (y_move rfl) ?_
  refine rw_p rfl rfl (y_assign rfl) ?_
  refine rw_done ?_
  refine gn_sq ?_
  refine HW_ret rfl ?_
  refine gr_sq ?_
  refine toR (fin hret rfl (.tmp rfl .nil) .one ?_)
  exact ⟨rfl, hm.to⟩

theorem r22_check (D : Pl.Dv) (m : Nat) (Z : List (Nat × Blk)) (w0 : World) (hZ : OwnZ w0 Z) (hz : RefZ 59 146 5 D m Z) (f b : Int) (hf : Pl.I64 f) (hb : Pl.I64 b) : C Try.prog 12 [.pointer (some ⟨m, 0, none⟩), .int .i64 f, .int .i64 b] w0 fun v w' => v = .int .i64 (Pl.jcheck D f b) ∧ Ext No w0 w' := by
  obtain ⟨pbY, cbY, pcY, ccY, csY, hP, -⟩ := hz.row hZ
  have hok := hz.ok
  have o4 := hok.max
  have o5 : D.cnt ≤ D.cnt * D.sz := Nat.le_mul_of_pos_right _ hok.sz
  have o7 : D.sz ≤ D.cnt * D.sz := Nat.le_mul_of_pos_left _ hok.cnt
  have hsb := Pl.slot_bnd (D.sz : Int) b
  simp only [Pl.I64] at hf
  have hjc : Pl.jcheck D f b = if Pl.slot (D.sz : Int) b = 0 then 20 else if f < 0 ∨ (D.cnt : Int) < f ∨ (D.cnt : Int) - f < 2 * Pl.slot (D.sz : Int) b then 17 else 0 := rfl
  refine C_of Try.func12 rfl rfl rfl fun κ hret hnorm => ?_
  have hm := Mem.start w0
  refine HW_seq rfl ?_
  refine HW_text (.pure 0 .done) (by kernel_rfl) ?_
  refine rw_p rfl rfl (y_assign rfl) ?_
  refine rw_done ?_
  refine gn_sq ?_
  refine HW_seq rfl ?_
  refine HW_text (.pure 0 (.pure 1 (.pure 2 (.pure 3 (.pure 4 (.act 5 (.pure 6 .done))))))) (by kernel_rfl) ?_
  refine rw_p rfl rfl (y_move rfl) ?_
  refine rw_p rfl rfl (y_nil rfl) ?_
  refine rw_p rfl rfl (y_fieldAddr rfl fo59_0) ?_
  refine rw_p rfl rfl (y_load rfl sc3 (nowT ((hm.to.same _ (Array.getElem?_eq_some_iff.1 hP).1 id).trans hP)) rfl) ?_
  refine rw_p rfl rfl (y_move rfl) ?_
  refine a_call rfl rfl rfl go8 (r22_slot (D.sz : Int) b _ (by simp only [Pl.I64]; omega) hb) fun v w hR => ?_
  obtain ⟨rfl, hE⟩ := hR
  refine ⟨trivial, ?_⟩
  replace hm := hm.ext hE
  refine rw_p rfl rfl (y_assign rfl) ?_
  refine rw_done ?_
  refine gn_sq ?_
  refine HW_seq rfl ?_
  refine HW_seq rfl ?_
  refine HW_text (.pure 0 (.pure 1 .done)) (by kernel_rfl) ?_
  refine rw_p rfl rfl (y_move rfl) ?_
  refine rw_p rfl rfl (y_eq rfl rfl) ?_
  refine rw_done ?_
  refine gn_sq ?_
  refine HW_cond rfl rfl (fun hc0 => ?_) (fun hc0 => ?_)
  ·
    simp only [decide_eq_true_eq] at hc0
    refine HW_seq rfl ?_
    refine HW_text (.pure 0 .done) (by kernel_rfl) ?_
    refine rw_p rfl rfl (y_assign rfl) ?_
    refine rw_done ?_
    refine gn_sq ?_
    refine HW_ret rfl ?_
    refine gr_sq ?_
    refine toR (fin hret rfl (.tmp rfl .nil) .one ?_)
    exact ⟨by rw [hjc, if_pos hc0], hm.to⟩
  ·
    simp only [decide_eq_false_iff_not] at hc0
    refine HW_skip rfl ?_
    refine gn_sq ?_
    refine HW_seq rfl ?_
    refine HW_seq rfl ?_
    rcases (show f < 0 ∨ (0 ≤ f ∧ (D.cnt : Int) < f) ∨ (0 ≤ f ∧ f ≤ (D.cnt : Int)) by omega) with hA | ⟨hA, hB⟩ | ⟨hA, hB⟩
    ·
      refine HW_text (.pure 0 (.pure 1 (.pure 2 (.pure 3 (.pure 4 (.pure 5 (.pure 6 (.pure 7 (.pure 8 (.pure 9 (.pure 10 (.pure 11 (.pure 12 (.pure 13 (.pure 14 (.pure 15 (.pure 16 (.pure 17 (.pure 18 (.pure 19 (.pure 20 .done))))))))))))))))))))) (by kernel_rfl) ?_
      refine rw_p rfl rfl (y_move rfl) ?_
      refine rw_p rfl rfl (y_as (c := true) (y_lt rfl rfl) (decide_eq_true hA)) ?_
      refine rw_p rfl rfl (y_move rfl) ?_
      refine rw_gf rfl rfl (by decide) rfl ?_
      refine rw_gf rfl rfl (by decide) rfl ?_
      refine rw_gf rfl rfl (by decide) rfl ?_
      refine rw_gf rfl rfl (by decide) rfl ?_
      refine rw_gf rfl rfl (by decide) rfl ?_
      refine rw_gf rfl rfl (by decide) rfl ?_
      refine rw_p rfl rfl (y_pickT rfl rfl) ?_
      refine rw_p rfl rfl (y_move rfl) ?_
      refine rw_gf rfl rfl (by decide) rfl ?_
      refine rw_gf rfl rfl (by decide) rfl ?_
      refine rw_gf rfl rfl (by decide) rfl ?_
      refine rw_gf rfl rfl (by decide) rfl ?_
      refine rw_gf rfl rfl (by decide) rfl ?_
      refine rw_gf rfl rfl (by decide) rfl ?_
      refine rw_gf rfl rfl (by decide) rfl ?_
      refine rw_gf rfl rfl (by decide) rfl ?_
      refine rw_gf rfl rfl (by decide) rfl ?_
      refine rw_p rfl rfl (y_pickT rfl rfl) ?_
      refine rw_done ?_
      refine gn_sq ?_
      refine HW_condT rfl rfl rfl ?_
      refine HW_seq rfl ?_
      refine HW_text (.pure 0 .done) (by kernel_rfl) ?_
      refine rw_p rfl rfl (y_assign rfl) ?_
      refine rw_done ?_
      refine gn_sq ?_
      refine HW_ret rfl ?_
      refine gr_sq ?_
      refine toR (fin hret rfl (.tmp rfl .nil) .one ?_)
      exact ⟨by rw [hjc, if_neg hc0, if_pos (by omega)], hm.to⟩
    ·
      refine HW_text (.pure 0 (.pure 1 (.pure 2 (.pure 3 (.pure 4 (.pure 5 (.pure 6 (.pure 7 (.pure 8 (.pure 9 (.pure 10 (.pure 11 (.pure 12 (.pure 13 (.pure 14 (.pure 15 (.pure 16 (.pure 17 (.pure 18 (.pure 19 (.pure 20 .done))))))))))))))))))))) (by kernel_rfl) ?_
      refine rw_p rfl rfl (y_move rfl) ?_
      refine rw_p rfl rfl (y_as (c := false) (y_lt rfl rfl) (decide_eq_false (by omega))) ?_
      refine rw_p rfl rfl (y_move rfl) ?_
      refine rw_p rfl rfl (y_move rfl) ?_
      refine rw_p rfl rfl (y_move rfl) ?_
      refine rw_p rfl rfl (y_nil rfl) ?_
      refine rw_p rfl rfl (y_fieldAddr rfl fo59_1) ?_
      refine rw_p rfl rfl (y_load rfl sc3 (nowT ((hm.to.same _ (Array.getElem?_eq_some_iff.1 hP).1 id).trans hP)) rfl) ?_
      refine rw_p rfl rfl (y_as (c := true) (y_gt rfl rfl) (decide_eq_true hB)) ?_
      refine rw_p rfl rfl (y_pickF rfl rfl) ?_
      refine rw_p rfl rfl (y_move rfl) ?_
      refine rw_gf rfl rfl (by decide) rfl ?_
      refine rw_gf rfl rfl (by decide) rfl ?_
      refine rw_gf rfl rfl (by decide) rfl ?_
      refine rw_gf rfl rfl (by decide) rfl ?_
      refine rw_gf rfl rfl (by decide) rfl ?_
      refine rw_gf rfl rfl (by decide) rfl ?_
      refine rw_gf rfl rfl (by decide) rfl ?_
      refine rw_gf rfl rfl (by decide) rfl ?_
      refine rw_gf rfl rfl (by decide) rfl ?_
      refine rw_p rfl rfl (y_pickT rfl rfl) ?_
      refine rw_done ?_
      refine gn_sq ?_
      refine HW_condT rfl rfl rfl ?_
      refine HW_seq rfl ?_
      refine HW_text (.pure 0 .done) (by kernel_rfl) ?_
      refine rw_p rfl rfl (y_assign rfl) ?_
      refine rw_done ?_
      refine gn_sq ?_
      refine HW_ret rfl ?_
      refine gr_sq ?_
      refine toR (fin hret rfl (.tmp rfl .nil) .one ?_)
      exact ⟨by rw [hjc, if_neg hc0, if_pos (by omega)], hm.to⟩
    ·
      refine HW_text (.pure 0 (.pure 1 (.pure 2 (.pure 3 (.pure 4 (.pure 5 (.pure 6 (.pure 7 (.pure 8 (.pure 9 (.pure 10 (.pure 11 (.pure 12 (.pure 13 (.pure 14 (.pure 15 (.pure 16 (.pure 17 (.pure 18 (.pure 19 (.pure 20 .done))))))))))))))))))))) (by kernel_rfl) ?_
      refine rw_p rfl rfl (y_move rfl) ?_
      refine rw_p rfl rfl (y_as (c := false) (y_lt rfl rfl) (decide_eq_false (by omega))) ?_
      refine rw_p rfl rfl (y_move rfl) ?_
      refine rw_p rfl rfl (y_move rfl) ?_
      refine rw_p rfl rfl (y_move rfl) ?_
      refine rw_p rfl rfl (y_nil rfl) ?_
      refine rw_p rfl rfl (y_fieldAddr rfl fo59_1) ?_
      refine rw_p rfl rfl (y_load rfl sc3 (nowT ((hm.to.same _ (Array.getElem?_eq_some_iff.1 hP).1 id).trans hP)) rfl) ?_
      refine rw_p rfl rfl (y_as (c := false) (y_gt rfl rfl) (decide_eq_false (by omega))) ?_
      refine rw_p rfl rfl (y_pickF rfl rfl) ?_
      refine rw_p rfl rfl (y_move rfl) ?_
      refine rw_p rfl rfl (y_move rfl) ?_
      refine rw_p rfl rfl (y_nil rfl) ?_
      refine rw_p rfl rfl (y_fieldAddr rfl fo59_1) ?_
      refine rw_p rfl rfl (y_load rfl sc3 (nowT ((hm.to.same _ (Array.getElem?_eq_some_iff.1 hP).1 id).trans hP)) rfl) ?_
      refine rw_p rfl rfl (y_move rfl) ?_
      refine rw_p rfl rfl (y_sub rfl rfl (i64w (by omega) (by omega))) ?_
      refine rw_p rfl rfl (y_move rfl) ?_
      refine rw_p rfl rfl (y_mul rfl rfl (i64w (by omega) (by omega))) ?_
      refine rw_p rfl rfl (y_lt rfl rfl) ?_
      refine rw_p rfl rfl (y_pickF rfl rfl) ?_
      refine rw_done ?_
      refine gn_sq ?_
      refine HW_cond rfl rfl (fun hc1 => ?_) (fun hc1 => ?_)
      ·
        simp only [decide_eq_true_eq] at hc1
        refine HW_seq rfl ?_
        refine HW_text (.pure 0 .done) (by kernel_rfl) ?_
        refine rw_p rfl rfl (y_assign rfl) ?_
        refine rw_done ?_
        refine gn_sq ?_
        refine HW_ret rfl ?_
        refine gr_sq ?_
        refine toR (fin hret rfl (.tmp rfl .nil) .one ?_)
        exact ⟨by rw [hjc, if_neg hc0, if_pos (by omega)], hm.to⟩
      ·
        simp only [decide_eq_false_iff_not] at hc1
        refine HW_skip rfl ?_
        refine gn_sq ?_
        refine HW_seq rfl ?_
        refine HW_text (.pure 0 .done) (by kernel_rfl) ?_
        refine rw_p rfl rfl (y_assign rfl) ?_
        refine rw_done ?_
        refine gn_sq ?_
        refine HW_ret rfl ?_
        refine toR (fin hret rfl (.tmp rfl .nil) .one ?_)
        exact ⟨by rw [hjc, if_neg hc0, if_neg (by omega)], hm.to⟩

set_option maxHeartbeats 1600000 in
theorem dv_ok (a c : Nat) (pb : Option Addr) (cb : Nat) (bs : List UInt8) (f b k : Int) (w0 : World) (hbk : SB.ok w0 ⟨pb, cb, bs⟩) (hrt : Pl.right (a : Int) (c : Int) bs.length = true) (h2k : c * a ≤ 2000) : C Try.prog 11 [.agg ⟨[.int .i64 (a : Int), .int .i64 (c : Int), .slice pb bs.length cb, .int .i64 f, .int .i64 b, .int .u64 k]⟩] w0 fun v w' => ∃ m mr Zw Zr, v = .tuple ⟨[.pointer (some ⟨m, 0, none⟩), .pointer (some ⟨mr, 0, none⟩)]⟩ ∧ DevZ 100 144 5 (Pl.nDv a c bs) m Zw ∧ RefZ 59 146 5 (Pl.nDv a c bs) mr Zr ∧ Mem w0 w' No (Zw ++ Zr) := by
  have hbl := hbk.le
  have hbm := hbk.max
  simp only at hbl hbm
  obtain ⟨h1, h2, h3, h4⟩ := Pl.right_of hrt
  have hac : (a : Int) * (c : Int) = ((c * a : Nat) : Int) := by rw [Nat.mul_comm]; norm_cast
  rw [hac] at h3 h4
  have hca : 1 ≤ c * a := Nat.mul_pos (by omega) (by omega)
  have hMM : IntKind.i64.wrap ((a : Int) * (c : Int)) = ((c * a : Nat) : Int) := by rw [hac]; exact i64w (by omega) (by omega)
  refine C_of Try.func11 rfl rfl rfl fun κ hret hnorm => ?_
  have hm := Mem.start w0
  refine HW_seq rfl ?_
  refine HW_text (.act 0 (.pure 1 (.pure 2 .done))) (by kernel_rfl) ?_
  refine a_box rfl rfl rfl rfl hm trivial fun m1 w hg_m1 hm hh => ?_
  refine rw_p rfl rfl (y_assign rfl) ?_
  refine rw_p rfl rfl (y_assign rfl) ?_
  refine rw_done ?_
  refine gn_sq ?_
  refine HW_seq rfl ?_
  refine HW_seq rfl ?_
  refine HW_text (.pure 0 (.pure 1 (.pure 2 (.pure 3 (.pure 4 (.pure 5 (.pure 6 (.act 7 (.pure 8 (.pure 9 (.pure 10 (.pure 11 (.pure 12 (.pure 13 (.pure 14 (.pure 15 (.pure 16 .done))))))))))))))))) (by kernel_rfl) ?_
  refine rw_p rfl rfl (y_fieldAddr rfl fo29_0) ?_
  refine rw_p rfl rfl (y_load rfl sc3 (hm.nt 0 rfl) rfl) ?_
  refine rw_p rfl rfl (y_fieldAddr rfl fo29_1) ?_
  refine rw_p rfl rfl (y_load rfl sc3 (hm.nt 0 rfl) rfl) ?_
  refine rw_p rfl rfl (y_fieldAddr rfl fo29_2) ?_
  refine rw_p rfl rfl (y_load rfl sc26 (hm.nt 0 rfl) rfl) ?_
  refine rw_p rfl rfl (y_len rfl rfl sl26) ?_
  refine a_call rfl rfl rfl go31 (C.as (v := .bool true) (r19_right a c bs.length _ (by unfold Pl.I64; omega)) (by rw [hrt])) fun v w hR => ?_
  obtain ⟨rfl, hE⟩ := hR
  refine ⟨trivial, ?_⟩
  replace hm := hm.ext hE
  refine rw_p rfl rfl (y_not rfl) ?_
  refine rw_p rfl rfl (y_move rfl) ?_
  refine rw_p rfl rfl (y_fieldAddr rfl fo29_0) ?_
  refine rw_p rfl rfl (y_load rfl sc3 (hm.nt 0 rfl) rfl) ?_
  refine rw_p rfl rfl (y_fieldAddr rfl fo29_1) ?_
  refine rw_p rfl rfl (y_load rfl sc3 (hm.nt 0 rfl) rfl) ?_
  refine rw_p rfl rfl (y_mul rfl rfl hMM) ?_
  refine rw_p rfl rfl (y_as (c := false) (y_gt rfl rfl) (decide_eq_false (by omega))) ?_
  refine rw_p rfl rfl (y_pickF rfl rfl) ?_
  refine rw_done ?_
  refine gn_sq ?_
  refine HW_condF rfl rfl rfl ?_
  refine HW_skip rfl ?_
  refine gn_sq ?_
  refine HW_seq rfl ?_
  refine HW_draw (.pure 0 (.pure 1 (.pure 2 (.pure 3 (.pure 4 (.pure 5 (.pure 8 (.pure 9 (.pure 10 (.pure 11 (.pure 12 (.pure 13 (.act 6 (.act 7 (.cut (.act 14 (.pure 15 (.pure 16 .done)))))))))))))))))) No mix (by kernel_rfl) hm fun w hw hm0 hh => ?_
  have hm := hm0
  refine rw_p rfl rfl (y_fieldAddr rfl fo29_0) ?_
  refine rw_p rfl rfl (y_load rfl sc3 (hm0.nd 0 rfl id) rfl) ?_
  refine rw_p rfl rfl (y_fieldAddr rfl fo29_1) ?_
  refine rw_p rfl rfl (y_load rfl sc3 (hm0.nd 0 rfl id) rfl) ?_
  refine rw_p rfl rfl (y_fieldAddr rfl fo29_2) ?_
  refine rw_p rfl rfl (y_load rfl sc26 (hm0.nd 0 rfl id) rfl) ?_
  refine rw_p rfl rfl (y_fieldAddr rfl fo29_0) ?_
  refine rw_p rfl rfl (y_load rfl sc3 (hm0.nd 0 rfl id) rfl) ?_
  refine rw_p rfl rfl (y_fieldAddr rfl fo29_1) ?_
  refine rw_p rfl rfl (y_load rfl sc3 (hm0.nd 0 rfl id) rfl) ?_
  refine rw_p rfl rfl (y_fieldAddr rfl fo29_2) ?_
  refine rw_p rfl rfl (y_load rfl sc26 (hm0.nd 0 rfl id) rfl) ?_
  refine a_buildSlice (l := [_]) rfl rfl sl88 z26 rfl rfl rfl rfl rfl rfl rfl hm hh fun m2 w hg_m2 hm hh => ?_
  refine a_call rfl rfl rfl go30 (o_newN a c _ 1 [⟨pb, cb, bs⟩] _ (Rd.row0 (hm.get (k := 0) rfl)) (fun s hs => by rw [List.mem_singleton.1 hs]; exact hbk.rd.ext0 hm.to) (by simp) (by simp; omega) bs (by simp) hrt) fun v w hR => ?_
  obtain ⟨m, Zw, rfl, hz, hmc⟩ := hR
  refine ⟨Hold.ext hh hmc.to, ?_⟩
  replace hm := hm.callTZ hmc
  replace hh := Hold.ext hh hmc.to
  refine a_cut ?_
  refine a_call rfl rfl rfl go32 (rf_new a c pb cb bs _ (hbk.rd.ext0 hm.to) (by omega) (by omega) (by omega) (by omega)) fun v w hR => ?_
  obtain ⟨mr, Zr, rfl, hy, hmc⟩ := hR
  refine ⟨trivial, ?_⟩
  replace hm := Mem.callT2 (A := [_, _]) hm hmc
  refine rw_p rfl rfl (y_assign rfl) ?_
  refine rw_p rfl rfl (y_assign rfl) ?_
  refine rw_done ?_
  refine gn_sq ?_
  refine HW_ret rfl ?_
  refine toR (fin hret rfl (.tmp rfl (.tmp rfl .nil)) .more ?_)
  exact ⟨m, mr, Zw, Zr, rfl, hz, hy, (hm.pickT [] 2 rfl)⟩

theorem dv_bad (u1 u2 : Int) (pb : Option Addr) (cb : Nat) (bs : List UInt8) (f b k : Int) (w0 : World) (hbk : SB.ok w0 ⟨pb, cb, bs⟩) (hu1 : Pl.I64 u1) (hu2 : Pl.I64 u2) (hno : ¬ (Pl.right u1 u2 bs.length = true ∧ u1 * u2 ≤ 2000)) : C Try.prog 11 [.agg ⟨[.int .i64 u1, .int .i64 u2, .slice pb bs.length cb, .int .i64 f, .int .i64 b, .int .u64 k]⟩] w0 fun v w' => v = .tuple ⟨[.pointer none, .pointer none]⟩ ∧ Ext No w0 w' := by
  have hbl := hbk.le
  have hbm := hbk.max
  simp only at hbl hbm
  refine C_of Try.func11 rfl rfl rfl fun κ hret hnorm => ?_
  have hm := Mem.start w0
  refine HW_seq rfl ?_
  refine HW_text (.act 0 (.pure 1 (.pure 2 .done))) (by kernel_rfl) ?_
  refine a_box rfl rfl rfl rfl hm trivial fun m1 w hg_m1 hm hh => ?_
  refine rw_p rfl rfl (y_assign rfl) ?_
  refine rw_p rfl rfl (y_assign rfl) ?_
  refine rw_done ?_
  refine gn_sq ?_
  refine HW_seq rfl ?_
  refine HW_seq rfl ?_
  cases hrt : Pl.right u1 u2 bs.length
  ·
    refine HW_text (.pure 0 (.pure 1 (.pure 2 (.pure 3 (.pure 4 (.pure 5 (.pure 6 (.act 7 (.pure 8 (.pure 9 (.pure 10 (.pure 11 (.pure 12 (.pure 13 (.pure 14 (.pure 15 (.pure 16 .done))))))))))))))))) (by kernel_rfl) ?_
    refine rw_p rfl rfl (y_fieldAddr rfl fo29_0) ?_
    refine rw_p rfl rfl (y_load rfl sc3 (hm.nt 0 rfl) rfl) ?_
    refine rw_p rfl rfl (y_fieldAddr rfl fo29_1) ?_
    refine rw_p rfl rfl (y_load rfl sc3 (hm.nt 0 rfl) rfl) ?_
    refine rw_p rfl rfl (y_fieldAddr rfl fo29_2) ?_
    refine rw_p rfl rfl (y_load rfl sc26 (hm.nt 0 rfl) rfl) ?_
    refine rw_p rfl rfl (y_len rfl rfl sl26) ?_
    refine a_call rfl rfl rfl go31 (C.as (v := .bool false) (r19_right u1 u2 bs.length _ (by unfold Pl.I64; omega)) (by rw [hrt])) fun v w hR => ?_
    obtain ⟨rfl, hE⟩ := hR
    refine ⟨trivial, ?_⟩
    replace hm := hm.ext hE
    refine rw_p rfl rfl (y_not rfl) ?_
    refine rw_p rfl rfl (y_move rfl) ?_
    refine rw_gf rfl rfl (by decide) rfl ?_
    refine rw_gf rfl rfl (by decide) rfl ?_
    refine rw_gf rfl rfl (by decide) rfl ?_
    refine rw_gf rfl rfl (by decide) rfl ?_
    refine rw_gf rfl rfl (by decide) rfl ?_
    refine rw_gf rfl rfl (by decide) rfl ?_
    refine rw_p rfl rfl (y_pickT rfl rfl) ?_
    refine rw_done ?_
    refine gn_sq ?_
    refine HW_condT rfl rfl rfl ?_
    refine HW_seq rfl ?_
    refine HW_text (.pure 0 (.pure 1 .done)) (by kernel_rfl) ?_
    refine rw_p rfl rfl (y_assign rfl) ?_
    refine rw_p rfl rfl (y_assign rfl) ?_
    refine rw_done ?_
    refine gn_sq ?_
    refine HW_ret rfl ?_
    refine gr_sq ?_
    refine toR (fin hret rfl (.tmp rfl (.tmp rfl .nil)) .more ?_)
    exact ⟨rfl, hm.to⟩
  ·
    refine HW_text (.pure 0 (.pure 1 (.pure 2 (.pure 3 (.pure 4 (.pure 5 (.pure 6 (.act 7 (.pure 8 (.pure 9 (.pure 10 (.pure 11 (.pure 12 (.pure 13 (.pure 14 (.pure 15 (.pure 16 .done))))))))))))))))) (by kernel_rfl) ?_
    refine rw_p rfl rfl (y_fieldAddr rfl fo29_0) ?_
    refine rw_p rfl rfl (y_load rfl sc3 (hm.nt 0 rfl) rfl) ?_
    refine rw_p rfl rfl (y_fieldAddr rfl fo29_1) ?_
    refine rw_p rfl rfl (y_load rfl sc3 (hm.nt 0 rfl) rfl) ?_
    refine rw_p rfl rfl (y_fieldAddr rfl fo29_2) ?_
    refine rw_p rfl rfl (y_load rfl sc26 (hm.nt 0 rfl) rfl) ?_
    refine rw_p rfl rfl (y_len rfl rfl sl26) ?_
    refine a_call rfl rfl rfl go31 (C.as (v := .bool true) (r19_right u1 u2 bs.length _ (by unfold Pl.I64; omega)) (by rw [hrt])) fun v w hR => ?_
    obtain ⟨rfl, hE⟩ := hR
    refine ⟨trivial, ?_⟩
    replace hm := hm.ext hE
    refine rw_p rfl rfl (y_not rfl) ?_
    refine rw_p rfl rfl (y_move rfl) ?_
    refine rw_p rfl rfl (y_fieldAddr rfl fo29_0) ?_
    refine rw_p rfl rfl (y_load rfl sc3 (hm.nt 0 rfl) rfl) ?_
    refine rw_p rfl rfl (y_fieldAddr rfl fo29_1) ?_
    refine rw_p rfl rfl (y_load rfl sc3 (hm.nt 0 rfl) rfl) ?_
    refine rw_p rfl rfl (y_mul rfl rfl (prodW (rightB hrt))) ?_
    refine rw_p rfl rfl (y_as (c := true) (y_gt rfl rfl) (decide_eq_true (Int.lt_of_not_ge fun h => hno ⟨hrt, h⟩))) ?_
    refine rw_p rfl rfl (y_pickF rfl rfl) ?_
    refine rw_done ?_
    refine gn_sq ?_
    refine HW_condT rfl rfl rfl ?_
    refine HW_seq rfl ?_
    refine HW_text (.pure 0 (.pure 1 .done)) (by kernel_rfl) ?_
    refine rw_p rfl rfl (y_assign rfl) ?_
    refine rw_p rfl rfl (y_assign rfl) ?_
    refine rw_done ?_
    refine gn_sq ?_
    refine HW_ret rfl ?_
    refine gr_sq ?_
    refine toR (fin hret rfl (.tmp rfl (.tmp rfl .nil)) .more ?_)
    exact ⟨rfl, hm.to⟩

end Go.Proofs.Ythailbggeafckaa
