/- Contracts of functions of the program: what each returns. Conditions: the hypotheses of each theorem. -/
import Derived.Test.YthokcfkcamcapaaDevF
set_option linter.unusedVariables false
set_option linter.unusedSimpArgs false
namespace Go.Proofs.Ythokcfkcamcapaa
open Go Go.Cx

theorem bt24_9 : bts Try.prog 24 9 = true := by kernel_rfl
theorem cb24 : slB8 Try.prog 24 = true := by kernel_rfl
theorem go11 : isGo Try.prog 11 = true := by kernel_rfl
theorem go12 : isGo Try.prog 12 = true := by kernel_rfl
theorem go13 : isGo Try.prog 13 = true := by kernel_rfl
theorem go20 : isGo Try.prog 20 = true := by kernel_rfl
theorem go25 : isGo Try.prog 25 = true := by kernel_rfl
theorem go26 : isGo Try.prog 26 = true := by kernel_rfl
theorem go9 : isGo Try.prog 9 = true := by kernel_rfl
theorem z24 : zer Try.prog 24 = some [.slice none 0 0] := by kernel_rfl

set_option maxHeartbeats 1600000 in
theorem law_alive (w0 : World) : C Try.prog 8 [] w0 fun v w' => v = .bool true ∧ Ext No w0 w' := by
  refine C_of Try.func8 rfl rfl rfl fun κ hret hnorm => ?_
  have hm := Mem.start w0
  refine HW_seq rfl ?_
  refine HW_text (.pure 0 .done) (by kernel_rfl) ?_
  refine rw_p rfl rfl (y_assign rfl) ?_
  refine rw_done ?_
  refine gn_sq ?_
  refine HW_seq rfl ?_
  refine HW_text (.act 0 (.act 1 (.act 2 (.act 3 (.pure 4 .done))))) (by kernel_rfl) ?_
  refine a_buildSlice (l := [_, _, _]) rfl rfl sl24 z5 rfl rfl rfl rfl rfl rfl rfl hm trivial fun m1 w hg_m1 hm hh => ?_
  refine a_mkd rfl rfl rfl cb24 hm 0 rfl fun w hm => ?_
  refine a_buildSlice (l := [_]) rfl rfl sl22 z24 rfl rfl rfl rfl rfl rfl rfl hm trivial fun m2 w hg_m2 hm hh => ?_
  refine a_call rfl rfl rfl go9 (o_new 1 3 _ 1 [⟨_, 3, [97, 98, 99]⟩] _ (Rd.row0 (hm.get (k := 0) rfl)) (fun s hs => by rw [List.mem_singleton.1 hs]; exact Rd.mkd (hm.get (k := 1) rfl)) (by simp) (by simp) [97, 98, 99] rfl (by decide)) fun v w hR => ?_
  obtain ⟨m, Z, rfl, hz, hmc⟩ := hR
  refine ⟨trivial, ?_⟩
  replace hm := hm.callTZ hmc
  refine rw_p rfl rfl (y_assign rfl) ?_
  refine rw_done ?_
  refine gn_sq ?_
  refine HW_seq rfl ?_
  refine HW_seq rfl ?_
  refine HW_text (.pure 0 (.pure 1 .done)) (by kernel_rfl) ?_
  refine rw_p rfl rfl (y_move rfl) ?_
  refine rw_p rfl rfl (y_pnil rfl rfl pb25) ?_
  refine rw_done ?_
  refine gn_sq ?_
  refine HW_condF rfl rfl rfl ?_
  refine HW_skip rfl ?_
  refine gn_sq ?_
  refine HW_seq rfl ?_
  refine HW_text (.pure 0 (.act 1 .done)) (by kernel_rfl) ?_
  refine rw_p rfl rfl (y_move rfl) ?_
  refine a_call rfl rfl rfl go25 (o_arm (Pl.nDv 1 3 [97, 98, 99]) m Z _ (OwnZ.right (A := [_, _]) hm.ownZ) hz 2 2 (by decide) (by decide)) fun v w hR => ?_
  obtain ⟨rfl, Z, hz, hmc⟩ := hR
  refine ⟨trivial, ?_⟩
  replace hm := Mem.callZL (A := [_, _]) hm hmc
  refine rw_done ?_
  refine gn_sq ?_
  refine HW_seq rfl ?_
  refine HW_text (.pure 0 (.act 1 (.act 2 (.act 3 (.pure 4 (.act 5 (.act 6 (.act 7 (.pure 8 (.act 9 (.act 10 (.act 11 (.pure 12 (.pure 13 (.pure 14 .done))))))))))))))) (by kernel_rfl) ?_
  refine rw_p rfl rfl (y_move rfl) ?_
  refine a_buildSlice (l := [_]) rfl rfl sl24 z5 rfl rfl rfl rfl rfl rfl rfl hm trivial fun m3 w hg_m3 hm hh => ?_
  refine a_mkd rfl rfl rfl cb24 hm 0 rfl fun w hm => ?_
  refine a_call rfl rfl rfl go26 (o_write (Pl.aDv (Pl.nDv 1 3 [97, 98, 99]) 2 2) m Z _ (OwnZ.right (A := [_, _, _]) hm.ownZ) hz _ 1 [120] 0 (Rd.mkd (hm.get (k := 0) rfl)) (fun _ a e => by cases e; exact Mem.notT (A := [_, _, _]) hm (k := 0) rfl) (by decide) (by decide)) fun v w hR => ?_
  obtain ⟨rfl, Z, hz, hmc⟩ := hR
  refine ⟨trivial, ?_⟩
  replace hm := Mem.callZL (A := [_, _, _]) hm hmc
  refine rw_p rfl rfl (y_move rfl) ?_
  refine a_buildSlice (l := [_]) rfl rfl sl24 z5 rfl rfl rfl rfl rfl rfl rfl hm trivial fun m4 w hg_m4 hm hh => ?_
  refine a_mkd rfl rfl rfl cb24 hm 0 rfl fun w hm => ?_
  refine a_call rfl rfl rfl go26 (o_write ((Pl.wDv (Pl.aDv (Pl.nDv 1 3 [97, 98, 99]) 2 2) 0 [120])) m Z _ (OwnZ.right (A := [_, _, _, _]) hm.ownZ) hz _ 1 [121] 1 (Rd.mkd (hm.get (k := 0) rfl)) (fun _ a e => by cases e; exact Mem.notT (A := [_, _, _, _]) hm (k := 0) rfl) (by decide) (by decide)) fun v w hR => ?_
  obtain ⟨rfl, Z, hz, hmc⟩ := hR
  refine ⟨trivial, ?_⟩
  replace hm := Mem.callZL (A := [_, _, _, _]) hm hmc
  refine rw_p rfl rfl (y_move rfl) ?_
  refine a_buildSlice (l := [_]) rfl rfl sl24 z5 rfl rfl rfl rfl rfl rfl rfl hm trivial fun m5 w hg_m5 hm hh => ?_
  refine a_mkd rfl rfl rfl cb24 hm 0 rfl fun w hm => ?_
  refine a_call rfl rfl rfl go26 (o_write ((Pl.wDv (Pl.wDv (Pl.aDv (Pl.nDv 1 3 [97, 98, 99]) 2 2) 0 [120]) 1 [121])) m Z _ (OwnZ.right (A := [_, _, _, _, _]) hm.ownZ) hz _ 1 [122] 2 (Rd.mkd (hm.get (k := 0) rfl)) (fun _ a e => by cases e; exact Mem.notT (A := [_, _, _, _, _]) hm (k := 0) rfl) (by decide) (by decide)) fun v w hR => ?_
  obtain ⟨rfl, Z, hz, hmc⟩ := hR
  refine ⟨trivial, ?_⟩
  replace hm := Mem.callZL (A := [_, _, _, _, _]) hm hmc
  refine rw_p rfl rfl (y_assign rfl) ?_
  refine rw_p rfl rfl (y_assign rfl) ?_
  refine rw_p rfl rfl (y_assign rfl) ?_
  refine rw_done ?_
  refine gn_sq ?_
  refine HW_seq rfl ?_
  refine HW_text (.pure 0 (.pure 1 (.pure 2 (.pure 3 (.pure 4 (.pure 5 (.pure 6 (.pure 7 (.pure 8 (.pure 9 (.pure 10 (.pure 11 (.act 12 (.pure 13 (.pure 14 (.pure 15 (.act 16 (.pure 17 (.pure 18 (.pure 19 (.pure 20 (.pure 21 (.act 22 (.pure 23 (.pure 24 (.pure 25 (.pure 26 (.act 27 (.pure 28 (.pure 29 (.pure 30 .done))))))))))))))))))))))))))))))) (by kernel_rfl) ?_
  refine rw_p rfl rfl (y_move rfl) ?_
  refine rw_p rfl rfl (y_as (c := true) (y_eq rfl rfl) (by decide)) ?_
  refine rw_p rfl rfl (y_move rfl) ?_
  refine rw_p rfl rfl (y_move rfl) ?_
  refine rw_p rfl rfl (y_as (c := true) (y_eq rfl rfl) (by decide)) ?_
  refine rw_p rfl rfl (y_pickT rfl rfl) ?_
  refine rw_p rfl rfl (y_move rfl) ?_
  refine rw_p rfl rfl (y_move rfl) ?_
  refine rw_p rfl rfl (y_as (c := true) (y_eq rfl rfl) (by decide)) ?_
  refine rw_p rfl rfl (y_pickT rfl rfl) ?_
  refine rw_p rfl rfl (y_move rfl) ?_
  refine rw_p rfl rfl (y_move rfl) ?_
  refine a_call rfl rfl rfl go20 (C.as (v := .bool true) (o_down (Pl.wDv (Pl.wDv (Pl.wDv (Pl.aDv (Pl.nDv 1 3 [97, 98, 99]) 2 2) 0 [120]) 1 [121]) 2 [122]) m Z _ (OwnZ.right (A := [_, _, _, _, _]) hm.ownZ) hz) (congrArg Value.bool (by decide))) fun v w hR => ?_
  obtain ⟨rfl, hE⟩ := hR
  refine ⟨trivial, ?_⟩
  replace hm := hm.ext hE
  refine rw_p rfl rfl (y_pickT rfl rfl) ?_
  refine rw_p rfl rfl (y_move rfl) ?_
  refine rw_p rfl rfl (y_move rfl) ?_
  refine a_call rfl rfl rfl go13 (o_disk (Pl.wDv (Pl.wDv (Pl.wDv (Pl.aDv (Pl.nDv 1 3 [97, 98, 99]) 2 2) 0 [120]) 1 [121]) 2 [122]) m Z _ (OwnZ.right (A := [_, _, _, _, _]) hm.ownZ) hz) fun v w hR => ?_
  obtain ⟨p_s, cap_s, g_s, b_s, rfl, ha_s, hmc⟩ := hR
  refine ⟨trivial, ?_⟩
  have hg_s : b_s.real = true → _ := fun hr => (hmc.fresh _ List.mem_cons_self hr).resolve_left id
  replace hm := hm.callN hmc
  refine rw_p rfl rfl (y_cvs rfl bt24_9 ((ha_s.rd hm 0 rfl).nt) ha_s.lenB) ?_
  refine rw_p rfl rfl (y_as (c := true) (y_seql rfl rfl) (by rw [show (Pl.wDv (Pl.wDv (Pl.wDv (Pl.aDv (Pl.nDv 1 3 [97, 98, 99]) 2 2) 0 [120]) 1 [121]) 2 [122]).dk = [97, 121, 99] by decide]; exact beq_self_eq_true (bstr [97, 121, 99]).toList)) ?_
  refine rw_p rfl rfl (y_pickT rfl rfl) ?_
  refine rw_p rfl rfl (y_move rfl) ?_
  refine rw_p rfl rfl (y_move rfl) ?_
  refine a_call rfl rfl rfl go11 (o_size (Pl.wDv (Pl.wDv (Pl.wDv (Pl.aDv (Pl.nDv 1 3 [97, 98, 99]) 2 2) 0 [120]) 1 [121]) 2 [122]) m Z _ (OwnZ.right (A := [_, _, _, _, _, _]) hm.ownZ) hz) fun v w hR => ?_
  obtain ⟨rfl, hE⟩ := hR
  refine ⟨trivial, ?_⟩
  replace hm := hm.ext hE
  refine rw_p rfl rfl (y_as (c := true) (y_eq rfl rfl) (by decide)) ?_
  refine rw_p rfl rfl (y_pickT rfl rfl) ?_
  refine rw_p rfl rfl (y_move rfl) ?_
  refine rw_p rfl rfl (y_move rfl) ?_
  refine a_call rfl rfl rfl go12 (o_sectors (Pl.wDv (Pl.wDv (Pl.wDv (Pl.aDv (Pl.nDv 1 3 [97, 98, 99]) 2 2) 0 [120]) 1 [121]) 2 [122]) m Z _ (OwnZ.right (A := [_, _, _, _, _, _]) hm.ownZ) hz) fun v w hR => ?_
  obtain ⟨rfl, hE⟩ := hR
  refine ⟨trivial, ?_⟩
  replace hm := hm.ext hE
  refine rw_p rfl rfl (y_as (c := true) (y_eq rfl rfl) (by decide)) ?_
  refine rw_p rfl rfl (y_pickT rfl rfl) ?_
  refine rw_p rfl rfl (y_assign rfl) ?_
  refine rw_done ?_
  refine gn_sq ?_
  refine HW_ret rfl ?_
  refine toR (fin hret rfl (.tmp rfl .nil) .one ?_)
  exact ⟨rfl, hm.to⟩

end Go.Proofs.Ythokcfkcamcapaa
