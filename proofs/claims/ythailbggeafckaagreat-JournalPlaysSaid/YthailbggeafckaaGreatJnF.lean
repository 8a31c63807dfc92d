/- Contracts of functions of the program: what each returns. Conditions: the hypotheses of each theorem. -/
import Derived.Test.YthailbggeafckaaGreatJnE
set_option linter.unusedVariables false
set_option linter.unusedSimpArgs false
namespace Go.Proofs.YthailbggeafckaaGreat
open Go Go.Cx

theorem go11 : isGo Tryz.prog 11 = true := by kernel_rfl
theorem go16 : isGo Tryz.prog 16 = true := by kernel_rfl
theorem go19 : isGo Tryz.prog 19 = true := by kernel_rfl
theorem go20 : isGo Tryz.prog 20 = true := by kernel_rfl
theorem go21 : isGo Tryz.prog 21 = true := by kernel_rfl
theorem go22 : isGo Tryz.prog 22 = true := by kernel_rfl
theorem go7 : isGo Tryz.prog 7 = true := by kernel_rfl
theorem iii63 : int2 Tryz.prog 63 = true := by kernel_rfl

set_option maxRecDepth 100000 in
theorem al_f : Pl.jopen (Pl.nDv 16 8 []) 1 3 77 = ⟨1, false, Pl.rc0⟩ := by kernel_rfl
theorem al_c : (Pl.japp (Pl.nDv 16 8 []) 1 3 4 ⟨1, false, Pl.rc0⟩ (Pl.jmk ⟨1, false, Pl.rc0⟩ 77 5 9 [97, 98, 99])).1 = 0 := by kernel_rfl
theorem al_s : (Pl.japp (Pl.nDv 16 8 []) 1 3 4 ⟨1, false, Pl.rc0⟩ (Pl.jmk ⟨1, false, Pl.rc0⟩ 77 5 9 [97, 98, 99])).2.2 = (⟨2, true, (Pl.jmk ⟨1, false, Pl.rc0⟩ 77 5 9 [97, 98, 99])⟩ : Pl.Jn) := by kernel_rfl
theorem al_z : (Pl.japp (Pl.nDv 16 8 []) 1 3 4 ⟨1, false, Pl.rc0⟩ (Pl.jmk ⟨1, false, Pl.rc0⟩ 77 5 9 [97, 98, 99])).2.1.sz = 16 := by kernel_rfl
theorem al_n : (Pl.japp (Pl.nDv 16 8 []) 1 3 4 ⟨1, false, Pl.rc0⟩ (Pl.jmk ⟨1, false, Pl.rc0⟩ 77 5 9 [97, 98, 99])).2.1.cnt = 8 := by kernel_rfl
theorem al_d : (Pl.japp (Pl.nDv 16 8 []) 1 3 4 ⟨1, false, Pl.rc0⟩ (Pl.jmk ⟨1, false, Pl.rc0⟩ 77 5 9 [97, 98, 99])).2.1.dn = false := by kernel_rfl
theorem al_o : Pl.jopen (Pl.japp (Pl.nDv 16 8 []) 1 3 4 ⟨1, false, Pl.rc0⟩ (Pl.jmk ⟨1, false, Pl.rc0⟩ 77 5 9 [97, 98, 99])).2.1 1 3 77 = (⟨2, true, (Pl.jmk ⟨1, false, Pl.rc0⟩ 77 5 9 [97, 98, 99])⟩ : Pl.Jn) := by kernel_rfl

theorem o_newN (a c : Nat) (q : Option Addr) (cq : Nat) (ps : List SB) (w0 : World) (hq : Rd w0 q (ps.flatMap encS)) (hps : ∀ s ∈ ps, Rd w0 s.p (s.bs.flatMap encB)) (hl : ps.length ≤ 4611686018427387903) (hb : (ps.flatMap (·.bs)).length ≤ 140737488355328) (BB : List UInt8) (hBB : ps.flatMap (·.bs) = BB) (hr : Pl.right a c BB.length = true) : C Tryz.prog 16 [.int .i64 (a : Int), .int .i64 (c : Int), .slice q ps.length cq] w0 fun v w' => ∃ m Z, v = .pointer (some ⟨m, 0, none⟩) ∧ DevZ 107 157 5 (Pl.nDv a c BB) m Z ∧ Mem w0 w' No Z := o_new a c q cq ps w0 hq hps hl hb BB hBB hr

theorem r19_right (x y n : Int) (w0 : World) (hn : Pl.I64 n) : C Tryz.prog 15 [.int .i64 x, .int .i64 y, .int .i64 n] w0 fun v w' => v = .bool (Pl.right x y n) ∧ Ext No w0 w' := by
  refine C_of Tryz.func15 rfl rfl rfl fun κ hret hnorm => ?_
  have hm := Mem.start w0
  refine HW_seq rfl ?_
  refine HW_text (.pure 0 .done) (by kernel_rfl) ?_
  refine rw_p rfl rfl (y_assign rfl) ?_
  refine rw_done ?_
  refine gn_sq ?_
  refine HW_seq rfl ?_
  refine HW_text (.pure 0 (.pure 1 (.pure 2 (.pure 3 (.pure 4 (.pure 5 (.pure 6 (.pure 7 (.pure 8 (.pure 9 (.pure 10 (.pure 11 (.pure 12 (.pure 13 (.pure 14 (.pure 15 (.pure 16 (.pure 17 (.pure 18 (.pure 19 (.pure 20 (.pure 21 (.pure 22 (.pure 23 (.pure 24 (.pure 25 (.pure 26 (.pure 27 .done)))))))))))))))))))))))))))) (by kernel_rfl) ?_
  refine rw_p rfl rfl (y_move rfl) ?_
  refine rw_p rfl rfl (y_ge rfl rfl) ?_
  refine rw_p rfl rfl (y_move rfl) ?_
  refine rw_g rfl rfl rfl (fun hc => (y_move rfl)) ?_
  refine rw_g rfl rfl rfl (fun hc => (y_ge (gx hc rfl) rfl)) ?_
  refine rw_p rfl rfl (y_and rfl rfl rfl) ?_
  refine rw_p rfl rfl (y_move rfl) ?_
  refine rw_g rfl rfl rfl (fun hc => (y_move rfl)) ?_
  refine rw_g rfl rfl rfl (fun hc => (y_le (gx hc rfl) rfl)) ?_
  refine rw_p rfl rfl (y_and rfl rfl rfl) ?_
  refine rw_p rfl rfl (y_move rfl) ?_
  refine rw_g rfl rfl rfl (fun hc => (y_move rfl)) ?_
  refine rw_g rfl rfl rfl (fun hc => (y_le (gx hc rfl) rfl)) ?_
  refine rw_p rfl rfl (y_and rfl rfl rfl) ?_
  refine rw_p rfl rfl (y_move rfl) ?_
  refine rw_g rfl rfl rfl (fun hc => (y_move rfl)) ?_
  refine rw_g rfl rfl rfl (fun hc => (y_move rfl)) ?_
  refine rw_g rfl rfl rfl (fun hc => (y_mul (gx hc rfl) (gx hc rfl) (prodW (by simp at hc; omega)))) ?_
  refine rw_g rfl rfl rfl (fun hc => (y_le (gx hc rfl) rfl)) ?_
  refine rw_p rfl rfl (y_and rfl rfl rfl) ?_
  refine rw_p rfl rfl (y_move rfl) ?_
  refine rw_g rfl rfl rfl (fun hc => (y_move rfl)) ?_
  refine rw_g rfl rfl rfl (fun hc => (y_move rfl)) ?_
  refine rw_g rfl rfl rfl (fun hc => (y_move rfl)) ?_
  refine rw_g rfl rfl rfl (fun hc => (y_mul (gx hc rfl) (gx hc rfl) (prodW (by simp at hc; omega)))) ?_
  refine rw_g rfl rfl rfl (fun hc => (y_le (gx hc rfl) (gx hc rfl))) ?_
  refine rw_p rfl rfl (y_and rfl rfl rfl) ?_
  refine rw_p rfl rfl (y_assign rfl) ?_
  refine rw_done ?_
  refine gn_sq ?_
  refine HW_ret rfl ?_
  refine toR (fin hret rfl (.tmp rfl .nil) .one ?_)
  exact ⟨congrArg Value.bool (right_b x y n), hm.to⟩

set_option maxHeartbeats 1600000 in
theorem law_alive (w0 : World) : C Tryz.prog 6 [] w0 fun v w' => v = .bool true ∧ Ext No w0 w' := by
  refine C_of Tryz.func6 rfl rfl rfl fun κ hret hnorm => ?_
  have hm := Mem.start w0
  refine HW_seq rfl ?_
  refine HW_text (.pure 0 .done) (by kernel_rfl) ?_
  refine rw_p rfl rfl (y_assign rfl) ?_
  refine rw_done ?_
  refine gn_sq ?_
  refine HW_seq rfl ?_
  refine HW_text (.act 0 (.pure 1 .done)) (by kernel_rfl) ?_
  refine a_call rfl rfl rfl go16 (o_newN 16 8 none 0 [] _ rfl (fun _ h => nomatch h) (by decide) (by decide) [] rfl (by decide)) fun v w hR => ?_
  obtain ⟨m, Z, rfl, hz, hmc⟩ := hR
  refine ⟨trivial, ?_⟩
  replace hm := hm.callTZ hmc
  refine rw_p rfl rfl (y_assign rfl) ?_
  refine rw_done ?_
  refine gn_sq ?_
  refine HW_seq rfl ?_
  refine HW_text (.pure 0 (.act 1 (.pure 2 (.pure 3 (.pure 4 (.pure 5 (.pure 6 .done))))))) (by kernel_rfl) ?_
  refine rw_p rfl rfl (y_move rfl) ?_
  refine a_call rfl rfl rfl go7 (j_open (Pl.nDv 16 8 []) m Z _ (OwnZ.right (A := []) hm.ownZ) hz 1 3 4 (by decide) (by decide) (by decide) (by decide) 77 rfl) fun v w hR => ?_
  obtain ⟨j, Zj, rfl, hj, hmc⟩ := hR
  refine ⟨trivial, ?_⟩
  obtain ⟨p_x, c_x, g_x, b_x, rfl, ha_x⟩ := hj
  replace hm := hm.callN hmc
  obtain ⟨S0, hS0⟩ : ∃ S, Pl.jopen (Pl.nDv 16 8 []) 1 3 77 = S := ⟨_, rfl⟩
  rw [hS0] at hm ha_x
  obtain rfl : S0 = ⟨1, false, Pl.rc0⟩ := hS0.symm.trans al_f
  refine rw_p rfl rfl (y_move rfl) ?_
  refine rw_p rfl rfl (y_extract rfl rfl) ?_
  refine rw_p rfl rfl (y_extract rfl rfl) ?_
  refine rw_p rfl rfl (y_assign rfl) ?_
  refine rw_p rfl rfl (y_assign rfl) ?_
  refine rw_done ?_
  refine gn_sq ?_
  refine HW_seq rfl ?_
  refine HW_seq rfl ?_
  refine HW_text (.pure 0 (.pure 1 (.pure 2 (.pure 3 (.pure 4 (.pure 5 (.pure 6 (.act 7 (.pure 8 (.pure 9 (.pure 10 (.pure 11 (.act 12 (.act 13 (.act 14 (.act 15 (.act 16 (.act 17 (.pure 18 (.pure 19 .done)))))))))))))))))))) (by kernel_rfl) ?_
  refine rw_p rfl rfl (y_move rfl) ?_
  refine rw_p rfl rfl (y_pnil rfl rfl pb33) ?_
  refine rw_p rfl rfl (y_move rfl) ?_
  refine rw_p rfl rfl (y_move rfl) ?_
  refine rw_p rfl rfl (y_as (c := false) (y_ne rfl rfl) (by decide)) ?_
  refine rw_p rfl rfl (y_pickF rfl rfl) ?_
  refine rw_p rfl rfl (y_move rfl) ?_
  refine a_call rfl rfl rfl go18 (C.as (v := .int .i64 3) (j_slot 16 4 _ (by decide) (by decide)) rfl) fun v w hR => ?_
  obtain ⟨rfl, hE⟩ := hR
  refine ⟨trivial, ?_⟩
  replace hm := hm.ext hE
  refine rw_p rfl rfl (y_as (c := false) (y_ne rfl rfl) (by decide)) ?_
  refine rw_p rfl rfl (y_pickF rfl rfl) ?_
  refine rw_p rfl rfl (y_move rfl) ?_
  refine rw_p rfl rfl (y_move rfl) ?_
  refine a_buildSlice (l := [_, _]) rfl rfl sl22 z5 rfl rfl rfl rfl rfl rfl rfl hm trivial fun m1 w hg_m1 hm hh => ?_
  refine a_mkd rfl rfl rfl cb22 hm 0 rfl fun w hm => ?_
  refine a_buildSlice (l := [_]) rfl rfl sl22 z5 rfl rfl rfl rfl rfl rfl rfl hm trivial fun m2 w hg_m2 hm hh => ?_
  refine a_mkd rfl rfl rfl cb22 hm 0 rfl fun w hm => ?_
  refine a_buildSlice (l := [_, _]) rfl rfl sl89 z22 rfl rfl rfl rfl rfl rfl rfl hm trivial fun m3 w hg_m3 hm hh => ?_
  refine a_call rfl rfl rfl go11 (j_append (Pl.nDv 16 8 []) m Z ⟨1, false, Pl.rc0⟩ j _ 1 3 4 77 5 9 _ 2 [⟨_, 2, [97, 98]⟩, ⟨_, 1, [99]⟩] [97, 98, 99] _ (OwnZ.right (A := [_, _, _]) hm.ownZ) hz ⟨p_x, c_x, g_x, b_x, rfl, ha_x⟩ (by decide) (by decide) (by decide) (by decide) (by decide) (by decide) (by decide) (by decide) (Rd.row0 (hm.get (k := 0) rfl)) (fun s hs => (List.mem_cons.1 hs).elim (fun e => by rw [e]; exact Rd.mkd (hm.get (k := 2) rfl)) fun h => by rw [List.mem_singleton.1 h]; exact Rd.mkd (hm.get (k := 1) rfl)) (by simp) rfl (by simp) (by decide)) fun v w hR => ?_
  obtain ⟨rfl, Zj, Z2, hj, hz2, hmc⟩ := hR
  refine ⟨trivial, ?_⟩
  obtain ⟨p_x, c_x, g_x, b_x, rfl, ha_x⟩ := hj
  replace hm := Mem.callZL (A := [_, _, _]) (Z := [_, _] ++ _) hm hmc
  obtain ⟨JA, hJA⟩ : ∃ x, (Pl.japp (Pl.nDv 16 8 []) 1 3 4 ⟨1, false, Pl.rc0⟩ (Pl.jmk ⟨1, false, Pl.rc0⟩ 77 5 9 [97, 98, 99])) = x := ⟨_, rfl⟩
  have f1 := al_c
  have f2 := al_s
  have f3 := al_z
  have f4 := al_n
  have f5 := al_d
  have f6 := al_o
  rw [hJA] at hm ha_x hz2 f1 f2 f3 f4 f5 f6 ⊢
  obtain ⟨e9, D1, S1⟩ := JA
  simp only at hm ha_x hz2 f1 f2 f3 f4 f5 f6 ⊢
  subst f1 f2
  refine rw_p rfl rfl (y_as (c := false) (y_ne rfl rfl) (by decide)) ?_
  refine rw_p rfl rfl (y_pickF rfl rfl) ?_
  refine rw_done ?_
  refine gn_sq ?_
  refine HW_condF rfl rfl rfl ?_
  refine HW_skip rfl ?_
  refine gn_sq ?_
  refine HW_seq rfl ?_
  refine HW_text (.pure 0 (.act 1 (.pure 2 (.pure 3 (.pure 4 (.pure 5 (.pure 6 .done))))))) (by kernel_rfl) ?_
  refine rw_p rfl rfl (y_move rfl) ?_
  refine a_call rfl rfl rfl go7 (j_open D1 m Z2 _ (OwnZ.right (A := [_, _, _, _, _]) hm.ownZ) hz2 1 3 4 (by decide) (by rw [f3]; rfl) (by decide) (by rw [f4]; decide) 77 f5) fun v w hR => ?_
  obtain ⟨j2, Zj, rfl, hj, hmc⟩ := hR
  refine ⟨trivial, ?_⟩
  rw [f6] at hj
  obtain ⟨p_y, c_y, g_y, b_y, rfl, ha_y⟩ := hj
  replace hm := hm.callN hmc
  refine rw_p rfl rfl (y_move rfl) ?_
  refine rw_p rfl rfl (y_extract rfl rfl) ?_
  refine rw_p rfl rfl (y_extract rfl rfl) ?_
  refine rw_p rfl rfl (y_assign rfl) ?_
  refine rw_p rfl rfl (y_assign rfl) ?_
  refine rw_done ?_
  refine gn_sq ?_
  refine HW_seq rfl ?_
  refine HW_seq rfl ?_
  refine HW_text (.pure 0 (.pure 1 (.pure 2 (.pure 3 (.pure 4 (.pure 5 .done)))))) (by kernel_rfl) ?_
  refine rw_p rfl rfl (y_move rfl) ?_
  refine rw_p rfl rfl (y_pnil rfl rfl pb33) ?_
  refine rw_p rfl rfl (y_move rfl) ?_
  refine rw_p rfl rfl (y_move rfl) ?_
  refine rw_p rfl rfl (y_as (c := false) (y_ne rfl rfl) (by decide)) ?_
  refine rw_p rfl rfl (y_pickF rfl rfl) ?_
  refine rw_done ?_
  refine gn_sq ?_
  refine HW_condF rfl rfl rfl ?_
  refine HW_skip rfl ?_
  refine gn_sq ?_
  refine HW_seq rfl ?_
  refine HW_text (.pure 0 (.act 1 (.pure 2 (.pure 3 (.pure 4 (.act 5 (.act 6 (.pure 7 .done)))))))) (by kernel_rfl) ?_
  refine rw_p rfl rfl (y_move rfl) ?_
  refine a_call rfl rfl rfl go19 (j_last m 1 4 77 (⟨2, true, (Pl.jmk ⟨1, false, Pl.rc0⟩ 77 5 9 [97, 98, 99])⟩ : Pl.Jn) j2 _ _ (OwnZ.left (A := [_, _]) hm.ownZ) ⟨p_y, c_y, g_y, b_y, rfl, ha_y⟩ (by decide)) fun v w hR => ?_
  obtain ⟨p_z, cap_z, g_z, b_z, rfl, ha_z, hmc⟩ := hR
  refine ⟨trivial, ?_⟩
  have hg_z : b_z.real = true → _ := fun hr => (hmc.fresh _ List.mem_cons_self hr).resolve_left id
  replace hm := hm.callN hmc
  refine rw_p rfl rfl (y_move rfl) ?_
  refine rw_p rfl rfl (y_extract rfl rfl) ?_
  refine rw_p rfl rfl (y_extract rfl rfl) ?_
  refine a_alloc rfl rfl z57 hm trivial fun m4 w hg_m4 hm hh => ?_
  refine a_store rfl rfl rfl rfl sz57 rfl hm 0 rfl rfl fun w hm => ?_
  refine rw_p rfl rfl (y_assign rfl) ?_
  refine rw_done ?_
  refine gn_sq ?_
  refine HW_seq rfl ?_
  refine HW_text (.pure 0 (.pure 1 (.pure 2 (.act 3 (.act 4 (.pure 5 (.act 6 (.pure 7 (.pure 8 (.pure 9 (.act 10 (.pure 11 (.pure 12 (.pure 13 (.pure 14 (.act 15 (.pure 16 (.pure 17 (.pure 18 (.pure 19 .done)))))))))))))))))))) (by kernel_rfl) ?_
  refine rw_p rfl rfl (y_move rfl) ?_
  refine rw_p rfl rfl (y_move rfl) ?_
  refine rw_p rfl rfl (y_loadA (s := 5) (vs := [_, _, _, _, _]) rfl ag57 (hm.nt 0 rfl) rfl) ?_
  refine a_buildSlice (l := [_, _, _]) rfl rfl sl22 z5 rfl rfl rfl rfl rfl rfl rfl hm trivial fun m5 w hg_m5 hm hh => ?_
  refine a_mkd rfl rfl rfl cb22 hm 0 rfl fun w hm => ?_
  refine rw_p rfl rfl (y_build (cs := [_, _, _, _, _]) z57 ft57 rfl rfl rfl rfl rfl) ?_
  refine a_call rfl rfl rfl go20 (C.as (v := .bool true) (rec_same (Pl.jmk ⟨1, false, Pl.rc0⟩ 77 5 9 [97, 98, 99]) (Pl.jmk ⟨1, false, Pl.rc0⟩ 77 5 9 [97, 98, 99]) p_z _ cap_z 3 _ (ha_z.rd hm 2 rfl) (Rd.mkd (hm.get (k := 0) rfl))) (congrArg Value.bool (Pl.rsame_refl _))) fun v w hR => ?_
  obtain ⟨rfl, hE⟩ := hR
  refine ⟨trivial, ?_⟩
  replace hm := hm.ext hE
  refine rw_p rfl rfl (y_pickT rfl rfl) ?_
  refine rw_p rfl rfl (y_move rfl) ?_
  refine rw_p rfl rfl (y_move rfl) ?_
  refine a_call rfl rfl rfl go21 (j_next m 1 4 _ (⟨2, true, (Pl.jmk ⟨1, false, Pl.rc0⟩ 77 5 9 [97, 98, 99])⟩ : Pl.Jn) j2 77 p_y c_y (hm.get (k := 3) rfl)) fun v w hR => ?_
  obtain ⟨rfl, hE⟩ := hR
  refine ⟨trivial, ?_⟩
  replace hm := hm.ext hE
  refine rw_p rfl rfl (y_as (c := true) (y_eq rfl rfl) (by decide)) ?_
  refine rw_p rfl rfl (y_pickT rfl rfl) ?_
  refine rw_p rfl rfl (y_move rfl) ?_
  refine rw_p rfl rfl (y_move rfl) ?_
  refine a_call rfl rfl rfl go22 (j_region D1 m Z2 _ (OwnZ.right (A := [_, _, _, _, _, _, _, _, _, _]) hm.ownZ) hz2 1 3 4 (by decide) (by rw [f3]; rfl) (by decide) (by rw [f4]; decide) (⟨2, true, (Pl.jmk ⟨1, false, Pl.rc0⟩ 77 5 9 [97, 98, 99])⟩ : Pl.Jn) j2 77 p_y c_y (hm.get (k := 3) rfl)) fun v w hR => ?_
  obtain ⟨rfl, hE⟩ := hR
  refine ⟨trivial, ?_⟩
  replace hm := hm.ext hE
  refine rw_p rfl rfl (y_build (cs := [_, _]) z63 ft63 rfl rfl rfl rfl rfl) ?_
  refine rw_p rfl rfl (y_as (c := true) (y_eq2 rfl rfl iii63) (by decide)) ?_
  refine rw_p rfl rfl (y_pickT rfl rfl) ?_
  refine rw_p rfl rfl (y_assign rfl) ?_
  refine rw_done ?_
  refine gn_sq ?_
  refine HW_ret rfl ?_
  refine toR (fin hret rfl (.tmp rfl .nil) .one ?_)
  exact ⟨rfl, hm.to⟩

end Go.Proofs.YthailbggeafckaaGreat
