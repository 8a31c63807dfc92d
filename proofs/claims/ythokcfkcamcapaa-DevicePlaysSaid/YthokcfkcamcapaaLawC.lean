/- Contracts of functions of the program: what each returns. Conditions: the hypotheses of each theorem. -/
import Derived.Test.YthokcfkcamcapaaRfE
set_option linter.unusedVariables false
set_option linter.unusedSimpArgs false
namespace Go.Proofs.Ythokcfkcamcapaa
open Go Go.Cx

theorem fo42_0 : fldO Try.prog 42 0 = some 0 := by kernel_rfl
theorem fo42_1 : fldO Try.prog 42 1 = some 1 := by kernel_rfl
theorem fo42_2 : fldO Try.prog 42 2 = some 2 := by kernel_rfl
theorem fo42_3 : fldO Try.prog 42 3 = some 3 := by kernel_rfl
theorem go21 : isGo Try.prog 21 = true := by kernel_rfl
theorem go23 : isGo Try.prog 23 = true := by kernel_rfl
theorem go24 : isGo Try.prog 24 = true := by kernel_rfl
theorem go28 : isGo Try.prog 28 = true := by kernel_rfl
theorem go29 : isGo Try.prog 29 = true := by kernel_rfl
theorem go34 : isGo Try.prog 34 = true := by kernel_rfl
theorem go35 : isGo Try.prog 35 = true := by kernel_rfl
theorem go36 : isGo Try.prog 36 = true := by kernel_rfl

set_option maxHeartbeats 1600000 in
theorem law_do (D : Pl.Dv) (m mr : Nat) (Zw Zr : List (Nat × Blk)) (k n kp : Int) (q : Option Addr) (cq : Nat) (bs : List UInt8) (w0 : World) (hZ : OwnZ w0 (Zw ++ Zr)) (hz : DevZ 72 84 5 D m Zw) (hy : RefZ 48 55 5 D mr Zr) (hq : Rd w0 q (bs.flatMap encB)) (hqX : bs.flatMap encB ≠ [] → ∀ a, q = some a → ¬ (Mn (reals (Zw ++ Zr))) a.block) (hle : bs.length ≤ cq) (hn : Pl.I64 n) (hkp : 0 ≤ kp ∧ kp ≤ 18446744073709551615) (hcl : D.ca.length ≤ 1000000000) : C Try.prog 19 [.pointer (some ⟨m, 0, none⟩), .pointer (some ⟨mr, 0, none⟩), .agg ⟨[.int .i64 k, .int .i64 n, .slice q bs.length cq, .int .u64 kp]⟩] w0 fun v w' => v = .bool true ∧ ∃ Zw' Zr', DevZ 72 84 5 (Pl.opDv D k n bs kp) m Zw' ∧ RefZ 48 55 5 (Pl.opDv D k n bs kp) mr Zr' ∧ Mem w0 w' (Mn (reals (Zw ++ Zr))) (Zw' ++ Zr') := by
  have hrc := Pl.rdC_len hz.ok n
  have hop : (Pl.opDv D k n bs kp) = if k = 0 then D else if k = 1 then Pl.wDv D n bs else if k = 2 then Pl.fDv D else if k = 3 then Pl.aDv D n kp else Pl.sDv D := rfl
  refine C_of Try.func19 rfl rfl rfl fun κ hret hnorm => ?_
  have hm := hZ.start
  refine HW_seq rfl ?_
  refine HW_text (.act 0 (.pure 1 .done)) (by kernel_rfl) ?_
  refine a_box rfl rfl rfl rfl hm trivial fun m1 w hg_m1 hm hh => ?_
  refine rw_p rfl rfl (y_assign rfl) ?_
  refine rw_done ?_
  refine gn_sq ?_
  refine HW_seq rfl ?_
  refine HW_seq rfl ?_
  refine HW_text (.pure 0 (.pure 1 .done)) (by kernel_rfl) ?_
  refine rw_p rfl rfl (y_fieldAddr rfl fo42_0) ?_
  refine rw_p rfl rfl (y_load rfl sc3 (hm.nt 0 rfl) rfl) ?_
  refine rw_done ?_
  refine gn_sq ?_
  refine HW_block rfl ?_
  refine HW_seq rfl ?_
  refine HW_text (.pure 0 (.pure 1 .done)) (by kernel_rfl) ?_
  refine rw_p rfl rfl (y_eq rfl rfl) ?_
  refine rw_p rfl rfl (y_assign rfl) ?_
  refine rw_done ?_
  refine gn_sq ?_
  refine HW_cond rfl rfl (fun hc0 => ?_) (fun hc0 => ?_)
  ·
    have hk0 : k = 0 := by simpa using hc0
    refine HW_seq rfl ?_
    refine HW_text (.pure 0 (.pure 1 (.pure 2 (.act 3 (.pure 4 (.pure 5 (.pure 6 (.pure 7 (.pure 8 .done))))))))) (by kernel_rfl) ?_
    refine rw_p rfl rfl (y_move rfl) ?_
    refine rw_p rfl rfl (y_fieldAddr rfl fo42_1) ?_
    refine rw_p rfl rfl (y_load rfl sc3 (hm.nt 0 rfl) rfl) ?_
    refine a_call rfl rfl rfl go24 (o_read D m _ _ (OwnZ.mid (A := [_]) hm.ownZ) hz n) fun v w hR => ?_
    obtain ⟨p_s, cap_s, g_s, b_s, rfl, ha_s, hmc⟩ := hR
    refine ⟨trivial, ?_⟩
    have hg_s : b_s.real = true → _ := fun hr => (hmc.fresh _ List.mem_cons_self hr).resolve_left id
    replace hm := hm.callN hmc
    refine rw_p rfl rfl (y_move rfl) ?_
    refine rw_p rfl rfl (y_extract rfl rfl) ?_
    refine rw_p rfl rfl (y_extract rfl rfl) ?_
    refine rw_p rfl rfl (y_assign rfl) ?_
    refine rw_p rfl rfl (y_assign rfl) ?_
    refine rw_done ?_
    refine gn_sq ?_
    refine HW_seq rfl ?_
    refine HW_text (.pure 0 (.pure 1 (.pure 2 (.act 3 (.pure 4 (.pure 5 (.pure 6 (.pure 7 (.pure 8 .done))))))))) (by kernel_rfl) ?_
    refine rw_p rfl rfl (y_move rfl) ?_
    refine rw_p rfl rfl (y_fieldAddr rfl fo42_1) ?_
    refine rw_p rfl rfl (y_load rfl sc3 (hm.nt 1 rfl) rfl) ?_
    refine a_call rfl rfl rfl go29 (q_read D mr _ _ (OwnZ.end (A := [_, _]) hm.ownZ) hy hcl n) fun v w hR => ?_
    obtain ⟨p_t, cap_t, rfl, hR_t, hE⟩ := hR
    refine ⟨trivial, ?_⟩
    replace hm := hm.ext hE
    refine rw_p rfl rfl (y_move rfl) ?_
    refine rw_p rfl rfl (y_extract rfl rfl) ?_
    refine rw_p rfl rfl (y_extract rfl rfl) ?_
    refine rw_p rfl rfl (y_assign rfl) ?_
    refine rw_p rfl rfl (y_assign rfl) ?_
    refine rw_done ?_
    refine gn_sq ?_
    refine HW_seq rfl ?_
    refine HW_text (.pure 0 (.pure 1 (.act 2 (.pure 3 (.pure 4 (.pure 5 (.pure 6 (.pure 7 (.pure 8 .done))))))))) (by kernel_rfl) ?_
    refine rw_p rfl rfl (y_move rfl) ?_
    refine rw_p rfl rfl (y_move rfl) ?_
    refine a_call rfl rfl rfl go14 (C.as (v := .bool true) (eq_b p_s p_t cap_s cap_t (Pl.rdC D n) (Pl.rdC D n) _ (ha_s.rd hm 0 rfl) hR_t (by omega) (by omega)) (congrArg Value.bool (decide_eq_true rfl))) fun v w hR => ?_
    obtain ⟨rfl, hE⟩ := hR
    refine ⟨trivial, ?_⟩
    replace hm := hm.ext hE
    refine rw_p rfl rfl (y_move rfl) ?_
    refine rw_p rfl rfl (y_move rfl) ?_
    refine rw_p rfl rfl (y_move rfl) ?_
    refine rw_p rfl rfl (y_as (c := true) (y_eq rfl rfl) (decide_eq_true rfl)) ?_
    refine rw_p rfl rfl (y_pickT rfl rfl) ?_
    refine rw_p rfl rfl (y_assign rfl) ?_
    refine rw_done ?_
    refine gn_sq ?_
    refine HW_ret rfl ?_
    refine gr_bl (gr_sq ?_)
    refine toR (fin hret rfl (.tmp rfl .nil) .one ?_)
    exact ⟨rfl, Zw, Zr, by rw [hop, if_pos hk0]; exact hz, by rw [hop, if_pos hk0]; exact hy, (hm.pickT [] 2 rfl)⟩
  ·
    have hk0 : ¬ k = 0 := by simpa using hc0
    refine HW_seq rfl ?_
    refine HW_text (.pure 0 (.pure 1 .done)) (by kernel_rfl) ?_
    refine rw_p rfl rfl (y_eq rfl rfl) ?_
    refine rw_p rfl rfl (y_assign rfl) ?_
    refine rw_done ?_
    refine gn_sq ?_
    refine HW_cond rfl rfl (fun hc1 => ?_) (fun hc1 => ?_)
    ·
      have hk1 : k = 1 := by simpa using hc1
      refine HW_seq rfl ?_
      refine HW_draw (.pure 0 (.pure 1 (.pure 2 (.pure 3 (.pure 4 (.pure 6 (.pure 7 (.pure 8 (.pure 9 (.pure 10 (.act 5 (.cut (.act 11 (.pure 12 (.pure 13 .done))))))))))))))) (Mn (reals (Zw ++ Zr))) mix (by kernel_rfl) hm fun w hw hm0 hh => ?_
      have hm := hm0
      refine rw_p rfl rfl (y_move rfl) ?_
      refine rw_p rfl rfl (y_fieldAddr rfl fo42_1) ?_
      refine rw_p rfl rfl (y_load rfl sc3 (hm0.nd 0 rfl (Mem.notT (A := [_]) hm0 (k := 0) rfl)) rfl) ?_
      refine rw_p rfl rfl (y_fieldAddr rfl fo42_2) ?_
      refine rw_p rfl rfl (y_load rfl sc24 (hm0.nd 0 rfl (Mem.notT (A := [_]) hm0 (k := 0) rfl)) rfl) ?_
      refine rw_p rfl rfl (y_move rfl) ?_
      refine rw_p rfl rfl (y_fieldAddr rfl fo42_1) ?_
      refine rw_p rfl rfl (y_load rfl sc3 (hm0.nd 0 rfl (Mem.notT (A := [_]) hm0 (k := 0) rfl)) rfl) ?_
      refine rw_p rfl rfl (y_fieldAddr rfl fo42_2) ?_
      refine rw_p rfl rfl (y_load rfl sc24 (hm0.nd 0 rfl (Mem.notT (A := [_]) hm0 (k := 0) rfl)) rfl) ?_
      refine a_call rfl rfl rfl go26 (o_write D m _ _ (OwnZ.mid (A := [_]) hm.ownZ) hz q cq bs n (hq.extN hm.to hqX) (fun h a e h9 => hqX h a e (Mn_left h9)) hle hcl) fun v w hR => ?_
      obtain ⟨rfl, Zw, hz, hmc⟩ := hR
      refine ⟨Ext.trans hh (hmc.to.mono fun _ h => Mn_left h), ?_⟩
      replace hm := Mem.callM (A := [_]) hm hmc
      replace hh : Hold (some (_, _)) _ := Ext.trans hh (hmc.to.mono fun _ h => Mn_left h)
      refine a_cut ?_
      refine a_call rfl rfl rfl go28 (q_put D mr _ _ (OwnZ.end (A := [_]) hm.ownZ) hy q cq bs n (hq.extN hm.to hqX) (fun h a e h9 => hqX h a e (Mn_right h9)) hle hcl) fun v w hR => ?_
      obtain ⟨rfl, Zr, hy, hmc⟩ := hR
      refine ⟨trivial, ?_⟩
      replace hm := Mem.callR (A := [_]) hm hmc
      refine rw_p rfl rfl (y_as (c := true) (y_eq rfl rfl) (decide_eq_true rfl)) ?_
      refine rw_p rfl rfl (y_assign rfl) ?_
      refine rw_done ?_
      refine gn_sq ?_
      refine HW_ret rfl ?_
      refine gr_bl (gr_sq ?_)
      refine toR (fin hret rfl (.tmp rfl .nil) .one ?_)
      exact ⟨rfl, Zw, Zr, by rw [hop, if_neg hk0, if_pos hk1]; exact hz, by rw [hop, if_neg hk0, if_pos hk1]; exact hy, (hm.pickT [] 1 rfl)⟩
    ·
      have hk1 : ¬ k = 1 := by simpa using hc1
      refine HW_seq rfl ?_
      refine HW_text (.pure 0 (.pure 1 .done)) (by kernel_rfl) ?_
      refine rw_p rfl rfl (y_eq rfl rfl) ?_
      refine rw_p rfl rfl (y_assign rfl) ?_
      refine rw_done ?_
      refine gn_sq ?_
      refine HW_cond rfl rfl (fun hc2 => ?_) (fun hc2 => ?_)
      ·
        have hk2 : k = 2 := by simpa using hc2
        refine HW_seq rfl ?_
        refine HW_text (.pure 0 (.act 1 (.pure 2 (.act 3 (.pure 4 (.pure 5 .done)))))) (by kernel_rfl) ?_
        refine rw_p rfl rfl (y_move rfl) ?_
        refine a_call rfl rfl rfl go21 (o_flush D m _ _ (OwnZ.mid (A := [_]) hm.ownZ) hz hcl) fun v w hR => ?_
        obtain ⟨rfl, Zw, hz, hmc⟩ := hR
        refine ⟨trivial, ?_⟩
        replace hm := Mem.callM (A := [_]) hm hmc
        refine rw_p rfl rfl (y_move rfl) ?_
        refine a_call rfl rfl rfl go34 (q_flush D mr _ _ (OwnZ.end (A := [_]) hm.ownZ) hy hcl) fun v w hR => ?_
        obtain ⟨rfl, Zr, hy, hmc⟩ := hR
        refine ⟨trivial, ?_⟩
        replace hm := Mem.callR (A := [_]) hm hmc
        refine rw_p rfl rfl (y_as (c := true) (y_eq rfl rfl) (decide_eq_true rfl)) ?_
        refine rw_p rfl rfl (y_assign rfl) ?_
        refine rw_done ?_
        refine gn_sq ?_
        refine HW_ret rfl ?_
        refine gr_bl (gr_sq ?_)
        refine toR (fin hret rfl (.tmp rfl .nil) .one ?_)
        exact ⟨rfl, Zw, Zr, by rw [hop, if_neg hk0, if_neg hk1, if_pos hk2]; exact hz, by rw [hop, if_neg hk0, if_neg hk1, if_pos hk2]; exact hy, (hm.pickT [] 1 rfl)⟩
      ·
        have hk2 : ¬ k = 2 := by simpa using hc2
        refine HW_seq rfl ?_
        refine HW_text (.pure 0 (.pure 1 .done)) (by kernel_rfl) ?_
        refine rw_p rfl rfl (y_eq rfl rfl) ?_
        refine rw_p rfl rfl (y_assign rfl) ?_
        refine rw_done ?_
        refine gn_sq ?_
        refine HW_cond rfl rfl (fun hc3 => ?_) (fun hc3 => ?_)
        ·
          have hk3 : k = 3 := by simpa using hc3
          have h9 : (Pl.opDv D k n bs kp) = Pl.aDv D n kp := by rw [hop, if_neg hk0, if_neg hk1, if_neg hk2, if_pos hk3]
          refine HW_seq rfl ?_
          refine HW_text (.pure 0 (.pure 1 (.pure 2 (.pure 3 (.pure 4 (.act 5 .done)))))) (by kernel_rfl) ?_
          refine rw_p rfl rfl (y_move rfl) ?_
          refine rw_p rfl rfl (y_fieldAddr rfl fo42_1) ?_
          refine rw_p rfl rfl (y_load rfl sc3 (hm.nt 0 rfl) rfl) ?_
          refine rw_p rfl rfl (y_fieldAddr rfl fo42_3) ?_
          refine rw_p rfl rfl (y_load rfl sc40 (hm.nt 0 rfl) rfl) ?_
          refine a_call rfl rfl rfl go25 (o_arm D m _ _ (OwnZ.mid (A := [_]) hm.ownZ) hz n kp hn hkp) fun v w hR => ?_
          obtain ⟨rfl, Zw, hz, hmc⟩ := hR
          refine ⟨trivial, ?_⟩
          replace hm := Mem.callM (A := [_]) hm hmc
          refine rw_done ?_
          refine gn_sq ?_
          refine HW_text (.pure 0 (.pure 1 (.pure 2 (.pure 3 (.pure 4 (.act 5 .done)))))) (by kernel_rfl) ?_
          refine rw_p rfl rfl (y_move rfl) ?_
          refine rw_p rfl rfl (y_fieldAddr rfl fo42_1) ?_
          refine rw_p rfl rfl (y_load rfl sc3 (hm.nt 0 rfl) rfl) ?_
          refine rw_p rfl rfl (y_fieldAddr rfl fo42_3) ?_
          refine rw_p rfl rfl (y_load rfl sc40 (hm.nt 0 rfl) rfl) ?_
          refine a_call rfl rfl rfl go35 (q_arm D mr _ _ (OwnZ.end (A := [_]) hm.ownZ) hy n kp hn hkp) fun v w hR => ?_
          obtain ⟨rfl, Zr, hy, hmc⟩ := hR
          refine ⟨trivial, ?_⟩
          replace hm := Mem.callR (A := [_]) hm hmc
          refine rw_done ?_
          refine gn_bl ?_
          refine gn_sq ?_
          refine HW_seq rfl ?_
          refine HW_text (.pure 0 .done) (by kernel_rfl) ?_
          refine rw_p rfl rfl (y_assign rfl) ?_
          refine rw_done ?_
          refine gn_sq ?_
          refine HW_ret rfl ?_
          refine toR (fin hret rfl (.tmp rfl .nil) .one ?_)
          exact ⟨rfl, Zw, Zr, by rw [h9]; exact hz, by rw [h9]; exact hy, (hm.pickT [] 1 rfl)⟩
        ·
          have hk3 : ¬ k = 3 := by simpa using hc3
          have h9 : (Pl.opDv D k n bs kp) = Pl.sDv D := by rw [hop, if_neg hk0, if_neg hk1, if_neg hk2, if_neg hk3]
          refine HW_seq rfl ?_
          refine HW_text (.pure 0 (.act 1 .done)) (by kernel_rfl) ?_
          refine rw_p rfl rfl (y_move rfl) ?_
          refine a_call rfl rfl rfl go23 (o_restart D m _ _ (OwnZ.mid (A := [_]) hm.ownZ) hz hcl) fun v w hR => ?_
          obtain ⟨rfl, Zw, hz, hmc⟩ := hR
          refine ⟨trivial, ?_⟩
          replace hm := Mem.callM (A := [_]) hm hmc
          refine rw_done ?_
          refine gn_sq ?_
          refine HW_text (.pure 0 (.act 1 .done)) (by kernel_rfl) ?_
          refine rw_p rfl rfl (y_move rfl) ?_
          refine a_call rfl rfl rfl go36 (q_restart D mr _ _ (OwnZ.end (A := [_]) hm.ownZ) hy) fun v w hR => ?_
          obtain ⟨rfl, Zr, hy, hmc⟩ := hR
          refine ⟨trivial, ?_⟩
          replace hm := Mem.callR (A := [_]) hm hmc
          refine rw_done ?_
          refine gn_bl ?_
          refine gn_sq ?_
          refine HW_seq rfl ?_
          refine HW_text (.pure 0 .done) (by kernel_rfl) ?_
          refine rw_p rfl rfl (y_assign rfl) ?_
          refine rw_done ?_
          refine gn_sq ?_
          refine HW_ret rfl ?_
          refine toR (fin hret rfl (.tmp rfl .nil) .one ?_)
          exact ⟨rfl, Zw, Zr, by rw [h9]; exact hz, by rw [h9]; exact hy, (hm.pickT [] 1 rfl)⟩

end Go.Proofs.Ythokcfkcamcapaa
