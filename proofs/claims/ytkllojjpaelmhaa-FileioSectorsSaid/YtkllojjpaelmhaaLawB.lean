/- Contracts of functions of the program: what each returns. Conditions: the hypotheses of each theorem. -/
import Derived.Test.YtkllojjpaelmhaaLaw
set_option linter.unusedVariables false
set_option linter.unusedSimpArgs false
namespace Go.Proofs.Ytkllojjpaelmhaa
open Go Go.Cx

theorem bt27_9 : bts Try.prog 27 9 = true := by kernel_rfl
theorem cb27 : slB8 Try.prog 27 = true := by kernel_rfl
theorem fv55_0 : fldV Try.prog 55 0 = some (0, 1, false) := by kernel_rfl
theorem go16 : isGo Try.prog 16 = true := by kernel_rfl
theorem go20 : isGo Try.prog 20 = true := by kernel_rfl
theorem go22 : isGo Try.prog 22 = true := by kernel_rfl
theorem iii23 : int2 Try.prog 23 = true := by kernel_rfl
theorem go8 : isGo Try.prog 8 = true := by kernel_rfl

set_option maxRecDepth 100000 in
theorem al_facts : (Pl.wrS 3 ([97, 98, 99, 100, 101, 102] : List UInt8) (Pl.sN (Pl.nDv 4 3 []).sz 3 ([97, 98, 99, 100, 101, 102] : List UInt8).length) (Pl.sF (Pl.nDv 4 3 []).sz 3 ([97, 98, 99, 100, 101, 102] : List UInt8).length) (Pl.nDv 4 3 [])).1 = 0 ∧ (Pl.wrS 3 ([97, 98, 99, 100, 101, 102] : List UInt8) (Pl.sN (Pl.nDv 4 3 []).sz 3 ([97, 98, 99, 100, 101, 102] : List UInt8).length) (Pl.sF (Pl.nDv 4 3 []).sz 3 ([97, 98, 99, 100, 101, 102] : List UInt8).length) (Pl.nDv 4 3 [])).2.sW = 3 ∧ Pl.rdB (Pl.wrS 3 ([97, 98, 99, 100, 101, 102] : List UInt8) (Pl.sN (Pl.nDv 4 3 []).sz 3 ([97, 98, 99, 100, 101, 102] : List UInt8).length) (Pl.sF (Pl.nDv 4 3 []).sz 3 ([97, 98, 99, 100, 101, 102] : List UInt8).length) (Pl.nDv 4 3 [])).2 2 8 = [0, 97, 98, 99, 100, 101, 102, 0] ∧ Pl.rdCode (Pl.wrS 3 ([97, 98, 99, 100, 101, 102] : List UInt8) (Pl.sN (Pl.nDv 4 3 []).sz 3 ([97, 98, 99, 100, 101, 102] : List UInt8).length) (Pl.sF (Pl.nDv 4 3 []).sz 3 ([97, 98, 99, 100, 101, 102] : List UInt8).length) (Pl.nDv 4 3 [])).2 2 8 = 0 := by decide +kernel

set_option maxHeartbeats 1600000 in
theorem law_alive (w0 : World) : C Try.prog 8 [] w0 fun v w' => v = .bool true ∧ Ext No w0 w' := by
  refine C_of Try.func8 rfl rfl rfl fun κ hret hnorm => ?_
  have hm := Mem.start w0
  refine HW_seq rfl ?_
  refine HW_text (.pure 0 .done) (by kernel_rfl) ?_
  refine rw_p rfl rfl (y_assign rfl) ?_
  refine rw_done ?_
  refine gn_sq ?_
  refine HW_seq rfl ?_
  refine HW_text (.act 0 (.pure 1 .done)) (by kernel_rfl) ?_
  refine a_call rfl rfl rfl go28 (o_newN 4 3 none 0 [] _ rfl (fun _ h => nomatch h) (by decide) (by decide) [] rfl (by decide)) fun v w hR => ?_
  obtain ⟨m, Z, rfl, hz, hmc⟩ := hR
  refine ⟨trivial, ?_⟩
  replace hm := hm.callTZ hmc
  refine rw_p rfl rfl (y_assign rfl) ?_
  refine rw_done ?_
  refine gn_sq ?_
  refine HW_seq rfl ?_
  refine HW_seq rfl ?_
  refine HW_text (.pure 0 (.pure 1 .done)) (by kernel_rfl) ?_
  refine rw_p rfl rfl (y_move rfl) ?_
  refine rw_p rfl rfl (y_pnil rfl rfl pb30) ?_
  refine rw_done ?_
  refine gn_sq ?_
  refine HW_condF rfl rfl rfl ?_
  refine HW_skip rfl ?_
  refine gn_sq ?_
  refine HW_seq rfl ?_
  refine HW_text (.pure 0 (.act 1 (.act 2 (.act 3 (.act 4 (.act 5 (.act 6 (.pure 7 .done)))))))) (by kernel_rfl) ?_
  refine rw_p rfl rfl (y_move rfl) ?_
  refine a_buildSlice (l := [_, _, _]) rfl rfl sl27 z5 rfl rfl rfl rfl rfl rfl rfl hm trivial fun m1 w hg_m1 hm hh => ?_
  refine a_mkd rfl rfl rfl cb27 hm 0 rfl fun w hm => ?_
  refine a_buildSlice (l := [_, _, _]) rfl rfl sl27 z5 rfl rfl rfl rfl rfl rfl rfl hm trivial fun m2 w hg_m2 hm hh => ?_
  refine a_mkd rfl rfl rfl cb27 hm 0 rfl fun w hm => ?_
  refine a_buildSlice (l := [_, _]) rfl rfl sl96 z27 rfl rfl rfl rfl rfl rfl rfl hm trivial fun m3 w hg_m3 hm hh => ?_
  refine a_call rfl rfl rfl go20 (f_write (Pl.nDv 4 3 []) m Z 3 _ 2 [⟨_, 3, [97, 98, 99]⟩, ⟨_, 3, [100, 101, 102]⟩] [97, 98, 99, 100, 101, 102] _ (OwnZ.right (A := [_, _, _]) hm.ownZ) hz (by decide) (Rd.row0 (hm.get (k := 0) rfl)) (fun s hs => (List.mem_cons.1 hs).elim (fun e => by rw [e]; exact Rd.mkd (hm.get (k := 2) rfl)) fun h => by rw [List.mem_singleton.1 h]; exact Rd.mkd (hm.get (k := 1) rfl)) (by simp) rfl (by decide) (by decide)) fun v w hR => ?_
  obtain ⟨rfl, Z2, hz2, hmc⟩ := hR
  refine ⟨trivial, ?_⟩
  replace hm := Mem.callZL (A := [_, _, _]) hm hmc
  obtain ⟨f1, f2, f3, f4⟩ := al_facts
  obtain ⟨R9, hR9⟩ : ∃ R9, (Pl.wrS 3 ([97, 98, 99, 100, 101, 102] : List UInt8) (Pl.sN (Pl.nDv 4 3 []).sz 3 ([97, 98, 99, 100, 101, 102] : List UInt8).length) (Pl.sF (Pl.nDv 4 3 []).sz 3 ([97, 98, 99, 100, 101, 102] : List UInt8).length) (Pl.nDv 4 3 [])) = R9 := ⟨_, rfl⟩
  rw [hR9] at hz2 f1 f2 f3 f4 ⊢
  obtain ⟨c9, D1⟩ := R9
  simp only at hz2 f1 f2 f3 f4 ⊢
  subst f1
  refine rw_p rfl rfl (y_assign rfl) ?_
  refine rw_done ?_
  refine gn_sq ?_
  refine HW_seq rfl ?_
  refine HW_text (.pure 0 (.pure 1 (.act 2 (.pure 3 (.pure 4 (.pure 5 (.pure 6 (.pure 7 .done)))))))) (by kernel_rfl) ?_
  refine rw_p rfl rfl (y_move rfl) ?_
  refine rw_p rfl rfl (y_build (cs := [_, _]) z23 ft23 rfl rfl rfl rfl rfl) ?_
  refine a_call rfl rfl rfl go16 (f_readA D1 m Z2 _ (OwnZ.right (A := [_, _, _]) hm.ownZ) hz2 2 8 (by decide) (by decide)) fun v w hR => ?_
  obtain ⟨p_s, cap_s, g_s, b_s, rfl, ha_s, hmc⟩ := hR
  refine ⟨trivial, ?_⟩
  have hg_s : b_s.real = true → _ := fun hr => (hmc.fresh _ List.mem_cons_self hr).resolve_left id
  replace hm := hm.callN hmc
  rw [f3] at ha_s ⊢
  rw [f4]
  refine rw_p rfl rfl (y_move rfl) ?_
  refine rw_p rfl rfl (y_extract rfl rfl) ?_
  refine rw_p rfl rfl (y_extract rfl rfl) ?_
  refine rw_p rfl rfl (y_assign rfl) ?_
  refine rw_p rfl rfl (y_assign rfl) ?_
  refine rw_done ?_
  refine gn_sq ?_
  refine HW_seq rfl ?_
  refine HW_text (.pure 0 (.pure 1 (.pure 2 (.pure 3 (.pure 4 (.pure 5 (.pure 6 (.pure 7 (.pure 8 (.pure 9 (.pure 10 (.pure 11 (.pure 12 (.act 13 (.pure 14 (.pure 15 (.pure 16 (.pure 17 (.pure 18 (.act 19 (.pure 20 (.pure 21 (.pure 22 (.pure 23 .done)))))))))))))))))))))))) (by kernel_rfl) ?_
  refine rw_p rfl rfl (y_move rfl) ?_
  refine rw_p rfl rfl (y_as (c := true) (y_eq rfl rfl) (by decide)) ?_
  refine rw_p rfl rfl (y_move rfl) ?_
  refine rw_p rfl rfl (y_move rfl) ?_
  refine rw_p rfl rfl (y_as (c := true) (y_eq rfl rfl) (by decide)) ?_
  refine rw_p rfl rfl (y_pickT rfl rfl) ?_
  refine rw_p rfl rfl (y_move rfl) ?_
  refine rw_p rfl rfl (y_move rfl) ?_
  refine rw_p rfl rfl (y_cvs rfl bt27_9 ((ha_s.rd hm 0 rfl).nt) ha_s.lenB) ?_
  refine rw_p rfl rfl (y_as (c := true) (y_seql rfl rfl) (beq_self_eq_true (bstr [0, 97, 98, 99, 100, 101, 102, 0]).toList)) ?_
  refine rw_p rfl rfl (y_pickT rfl rfl) ?_
  refine rw_p rfl rfl (y_move rfl) ?_
  refine rw_p rfl rfl (y_move rfl) ?_
  refine a_call rfl rfl rfl go22 (o_stats D1 m Z2 _ (OwnZ.right (A := [_, _, _, _]) hm.ownZ) hz2) fun v w hR => ?_
  obtain ⟨rfl, hE⟩ := hR
  refine ⟨trivial, ?_⟩
  replace hm := hm.ext hE
  refine rw_p rfl rfl (y_fieldV rfl fv55_0 rfl) ?_
  refine rw_p rfl rfl (y_as (c := true) (y_eq rfl rfl) (decide_eq_true f2)) ?_
  refine rw_p rfl rfl (y_pickT rfl rfl) ?_
  refine rw_p rfl rfl (y_move rfl) ?_
  refine rw_p rfl rfl (y_build (cs := [_, _]) z23 ft23 rfl rfl rfl rfl rfl) ?_
  refine a_call rfl rfl rfl go9 (f_secs _ _ _ _ (by omega) (by omega) (by omega)) fun v w hR => ?_
  obtain ⟨rfl, hE⟩ := hR
  refine ⟨trivial, ?_⟩
  replace hm := hm.ext hE
  refine rw_p rfl rfl (y_build (cs := [_, _]) z23 ft23 rfl rfl rfl rfl rfl) ?_
  refine rw_p rfl rfl (y_as (c := true) (y_eq2 rfl rfl iii23) (by decide +kernel)) ?_
  refine rw_p rfl rfl (y_pickT rfl rfl) ?_
  refine rw_p rfl rfl (y_assign rfl) ?_
  refine rw_done ?_
  refine gn_sq ?_
  refine HW_ret rfl ?_
  refine toR (fin hret rfl (.tmp rfl .nil) .one ?_)
  exact ⟨rfl, hm.to⟩

theorem law_sectors (s a b : Int) (w0 : World) (hs : Pl.I64 s) (ha : Pl.I64 a) (hb : Pl.I64 b) : C Try.prog 3 [.int .i64 s, .agg ⟨[.int .i64 a, .int .i64 b]⟩] w0 fun v w' => v = .bool true ∧ Ext No w0 w' := by
  simp only [Pl.I64] at hs ha hb
  refine C_of Try.func3 rfl rfl rfl fun κ hret hnorm => ?_
  have hm := Mem.start w0
  refine HW_seq rfl ?_
  refine HW_text (.act 0 (.pure 1 .done)) (by kernel_rfl) ?_
  refine a_box rfl rfl rfl rfl hm trivial fun m1 w hg_m1 hm hh => ?_
  refine rw_p rfl rfl (y_assign rfl) ?_
  refine rw_done ?_
  refine gn_sq ?_
  refine HW_seq rfl ?_
  refine HW_draw (.act 0 (.pure 1 (.pure 2 (.pure 3 (.pure 5 (.pure 6 (.act 4 (.cut (.act 7 (.pure 8 (.pure 9 (.pure 10 .done)))))))))))) No mix (by kernel_rfl) hm fun w hw hm0 hh => ?_
  have hm := hm0
  refine a_call rfl rfl rfl go8 (law_alive _) fun v w hR => ?_
  obtain ⟨rfl, hE⟩ := hR
  refine ⟨hh.ext hE, ?_⟩
  replace hm := hm.ext hE
  replace hh := hh.ext hE
  refine rw_p rfl rfl (y_move rfl) ?_
  refine rw_p rfl rfl (y_move rfl) ?_
  refine rw_p rfl rfl (y_loadA (s := 2) (vs := [_, _]) rfl ag23 (hm0.nd 0 rfl id) rfl) ?_
  refine rw_p rfl rfl (y_move rfl) ?_
  refine rw_p rfl rfl (y_loadA (s := 2) (vs := [_, _]) rfl ag23 (hm0.nd 0 rfl id) rfl) ?_
  refine a_call rfl rfl rfl go9 (f_secs _ _ _ _ (by omega) (by omega) (by omega)) fun v w hR => ?_
  obtain ⟨rfl, hE⟩ := hR
  refine ⟨hh.ext hE, ?_⟩
  replace hm := hm.ext hE
  replace hh := hh.ext hE
  refine a_cut ?_
  refine a_call rfl rfl rfl go10 (r20_secs _ _ _ _ (by omega) (by omega) (by omega)) fun v w hR => ?_
  obtain ⟨rfl, hE⟩ := hR
  refine ⟨trivial, ?_⟩
  replace hm := hm.ext hE
  refine rw_p rfl rfl (y_as (c := true) (y_eq2 rfl rfl iii23) (by simp)) ?_
  refine rw_p rfl rfl (y_pickT rfl rfl) ?_
  refine rw_p rfl rfl (y_assign rfl) ?_
  refine rw_done ?_
  refine gn_sq ?_
  refine HW_ret rfl ?_
  refine toR (fin hret rfl (.tmp rfl .nil) .one ?_)
  exact ⟨rfl, hm.to⟩

end Go.Proofs.Ytkllojjpaelmhaa
