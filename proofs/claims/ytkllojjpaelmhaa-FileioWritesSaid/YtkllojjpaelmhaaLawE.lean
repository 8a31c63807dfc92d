/- Contracts of functions of the program: what each returns. Conditions: the hypotheses of each theorem. -/
import Derived.Test.YtkllojjpaelmhaaLaw
set_option linter.unusedVariables false
set_option linter.unusedSimpArgs false
namespace Go.Proofs.Ytkllojjpaelmhaa
open Go Go.Cx

theorem ag29 : aggS Try.prog 29 = some 3 := by kernel_rfl
theorem ar59 : arrO Try.prog 59 = some (2, 3, 1) := by kernel_rfl
theorem fo47_0 : fldO Try.prog 47 0 = some 0 := by kernel_rfl
theorem fo47_1 : fldO Try.prog 47 1 = some 1 := by kernel_rfl
theorem fo47_2 : fldO Try.prog 47 2 = some 2 := by kernel_rfl
theorem go11 : isGo Try.prog 11 = true := by kernel_rfl
theorem go12 : isGo Try.prog 12 = true := by kernel_rfl
theorem go14 : isGo Try.prog 14 = true := by kernel_rfl
theorem go18 : isGo Try.prog 18 = true := by kernel_rfl
theorem go23 : isGo Try.prog 23 = true := by kernel_rfl
theorem go24 : isGo Try.prog 24 = true := by kernel_rfl
theorem go25 : isGo Try.prog 25 = true := by kernel_rfl
theorem is3 : (Try.prog.underlying 3).isSome = true := by kernel_rfl
theorem it35 : intO Try.prog 35 = some .u64 := by kernel_rfl
theorem pb31 : ptrB Try.prog 31 = true := by kernel_rfl
theorem un4 : Try.prog.underlying 4 = some .bool := by kernel_rfl
theorem z1 : zer Try.prog 1 = some [.nilFunc] := by kernel_rfl
theorem z2 : zer Try.prog 2 = some [.int .i64 0] := by kernel_rfl

set_option maxHeartbeats 3200000 in
theorem law_writes (u1 u2 : Int) (pb : Option Addr) (cb : Nat) (bs : List UInt8) (x : Int) (p1 : Option Addr) (c1 : Nat) (b1 : List UInt8) (p2 : Option Addr) (c2 : Nat) (b2 : List UInt8) (z1 z2 : Int) (w0 : World) (hbk : SB.ok w0 ⟨pb, cb, bs⟩) (hu1 : Pl.I64 u1) (hu2 : Pl.I64 u2) (hx : Pl.I64 x) (hb1 : SB.ok w0 ⟨p1, c1, b1⟩) (hb2 : SB.ok w0 ⟨p2, c2, b2⟩) (hz1 : Pl.I64 z1) (hz2 : Pl.I64 z2) : C Try.prog 6 [.agg ⟨[.int .i64 u1, .int .i64 u2, .slice pb bs.length cb]⟩, .agg ⟨[.int .i64 x, .slice p1 b1.length c1, .slice p2 b2.length c2]⟩, .agg ⟨[.int .i64 z1, .int .i64 z2]⟩] w0 fun v w' => v = .bool true ∧ Ext No w0 w' := by
  simp only [Pl.I64] at hu1 hu2
  have hbl := hbk.le
  have hbm := hbk.max
  simp only at hbl hbm
  have h1l := hb1.le
  have h1m := hb1.max
  have h2l := hb2.le
  have h2m := hb2.max
  simp only at h1l h1m h2l h2m
  obtain ⟨BB, hBB⟩ : ∃ BB, b1 ++ b2 = BB := ⟨_, rfl⟩
  have hBl : BB.length = b1.length + b2.length := by rw [← hBB, List.length_append]
  refine C_of Try.func6 rfl rfl rfl fun κ hret hnorm => ?_
  have hm := Mem.start w0
  refine HW_seq rfl ?_
  refine HW_text (.act 0 (.act 1 (.act 2 (.pure 3 .done)))) (by kernel_rfl) ?_
  refine a_box rfl rfl rfl rfl hm trivial fun m1 w hg_m1 hm hh => ?_
  refine a_box rfl rfl rfl rfl hm trivial fun m2 w hg_m2 hm hh => ?_
  refine a_box rfl rfl rfl rfl hm trivial fun m3 w hg_m3 hm hh => ?_
  refine rw_p rfl rfl (y_assign rfl) ?_
  refine rw_done ?_
  refine gn_sq ?_
  refine HW_seq rfl ?_
  by_cases hmk : Pl.right u1 u2 bs.length = true ∧ u1 * u2 ≤ 2000
  ·
    obtain ⟨hrt, h2k⟩ := hmk
    obtain ⟨h1, h2, h3, h4⟩ := Pl.right_of hrt
    obtain ⟨a, rfl⟩ : ∃ a : Nat, u1 = a := ⟨u1.toNat, by omega⟩
    obtain ⟨c, rfl⟩ : ∃ c : Nat, u2 = c := ⟨u2.toNat, by omega⟩
    have hac : (a : Int) * (c : Int) = ((c * a : Nat) : Int) := by rw [Nat.mul_comm]; norm_cast
    rw [hac] at h2k h3 h4
    have hca : 1 ≤ c * a := Nat.mul_pos (by omega) (by omega)
    have ha9 : a ≤ c * a := Nat.le_mul_of_pos_left _ (by omega)
    have hc9 : c ≤ c * a := Nat.le_mul_of_pos_right _ (by omega)
    have hMM : IntKind.i64.wrap ((a : Int) * (c : Int)) = ((c * a : Nat) : Int) := by rw [hac]; exact i64w (by omega) (by omega)
    refine HW_text (.pure 0 (.act 1 (.pure 2 (.pure 3 (.pure 4 (.pure 5 (.pure 6 .done))))))) (by kernel_rfl) ?_
    refine rw_p rfl rfl (y_loadA (s := 3) (vs := [_, _, _]) rfl ag29 (hm.nt 2 rfl) rfl) ?_
    refine a_call rfl rfl rfl go11 (mk_ok a c pb cb bs _ (hbk.ext hm.to) hrt (by omega)) fun v w hR => ?_
    obtain ⟨m, mr, Zw, Zr, rfl, hz, hy, hmc⟩ := hR
    refine ⟨trivial, ?_⟩
    replace hm := hm.callTZ hmc
    refine rw_p rfl rfl (y_move rfl) ?_
    refine rw_p rfl rfl (y_extract rfl rfl) ?_
    refine rw_p rfl rfl (y_extract rfl rfl) ?_
    refine rw_p rfl rfl (y_assign rfl) ?_
    refine rw_p rfl rfl (y_assign rfl) ?_
    refine rw_done ?_
    refine gn_sq ?_
    refine HW_seq rfl ?_
    refine HW_seq rfl ?_
    refine HW_text (.pure 0 (.pure 1 (.pure 2 (.pure 3 (.pure 4 (.pure 5 (.pure 6 (.pure 7 (.pure 8 (.pure 9 (.pure 10 (.pure 11 (.pure 12 (.pure 13 .done)))))))))))))) (by kernel_rfl) ?_
    refine rw_p rfl rfl (y_move rfl) ?_
    refine rw_p rfl rfl (y_pnil rfl rfl pb31) ?_
    refine rw_p rfl rfl (y_move rfl) ?_
    refine rw_p rfl rfl (y_fieldAddr rfl fo47_1) ?_
    refine rw_p rfl rfl (y_load rfl sc27 (hm.nt 1 rfl) rfl) ?_
    refine rw_p rfl rfl (y_len rfl rfl sl27) ?_
    refine rw_p rfl rfl (y_gt rfl rfl) ?_
    refine rw_p rfl rfl (y_pickF rfl rfl) ?_
    refine rw_p rfl rfl (y_move rfl) ?_
    refine rw_g rfl rfl rfl (fun hc => (y_fieldAddr rfl fo47_2)) ?_
    refine rw_g rfl rfl rfl (fun hc => (y_load (gx hc rfl) sc27 (hm.nt 1 rfl) rfl)) ?_
    refine rw_g rfl rfl rfl (fun hc => (y_len (gx hc rfl) rfl sl27)) ?_
    refine rw_g rfl rfl rfl (fun hc => (y_gt (gx hc rfl) rfl)) ?_
    refine rw_p rfl rfl (y_or rfl rfl rfl) ?_
    refine rw_done ?_
    refine gn_sq ?_
    refine HW_cond rfl rfl (fun hc0 => ?_) (fun hc0 => ?_)
    ·
      refine HW_seq rfl ?_
      refine HW_text (.act 0 (.pure 1 .done)) (by kernel_rfl) ?_
      refine a_call rfl rfl rfl go8 (law_alive _) fun v w hR => ?_
      obtain ⟨rfl, hE⟩ := hR
      refine ⟨trivial, ?_⟩
      replace hm := hm.ext hE
      refine rw_p rfl rfl (y_assign rfl) ?_
      refine rw_done ?_
      refine gn_sq ?_
      refine HW_ret rfl ?_
      refine gr_sq ?_
      refine toR (fin hret rfl (.tmp rfl .nil) .one ?_)
      exact ⟨rfl, hm.to⟩
    ·
      simp only [Bool.or_eq_false_iff, decide_eq_false_iff_not] at hc0
      obtain ⟨hs1, hs2⟩ := hc0
      refine HW_skip rfl ?_
      refine gn_sq ?_
      refine HW_seq rfl ?_
      refine HW_seq rfl ?_
      refine HW_text (.pure 0 (.pure 1 .done)) (by kernel_rfl) ?_
      refine rw_p rfl rfl (y_move rfl) ?_
      refine rw_p rfl rfl (y_pnil rfl rfl pb30) ?_
      refine rw_done ?_
      refine gn_sq ?_
      refine HW_condF rfl rfl rfl ?_
      refine HW_skip rfl ?_
      refine gn_sq ?_
      refine HW_seq rfl ?_
      refine HW_text (.pure 0 (.pure 1 (.pure 2 (.pure 3 (.pure 4 (.pure 5 (.act 6 .done))))))) (by kernel_rfl) ?_
      refine rw_p rfl rfl (y_move rfl) ?_
      refine rw_p rfl rfl (y_indexP rfl rfl ar59 (by omega) (by omega)) ?_
      refine rw_p rfl rfl (y_load rfl sc3 (hm.nt 0 rfl) rfl) ?_
      refine rw_p rfl rfl (y_indexP rfl rfl ar59 (by omega) (by omega)) ?_
      refine rw_p rfl rfl (y_load rfl sc3 (hm.nt 0 rfl) rfl) ?_
      refine rw_p rfl rfl (y_conv rfl is3 it35 rfl) ?_
      refine a_call rfl rfl rfl go12 (o_arm (Pl.nDv a c bs) m _ _ (OwnZ.mid (A := [_, _, _]) hm.ownZ) hz z1 (IntKind.u64.wrap z2) hz1 (kp_rng z2)) fun v w hR => ?_
      obtain ⟨rfl, Zw, hz, hmc⟩ := hR
      refine ⟨trivial, ?_⟩
      replace hm := Mem.callM (A := [_, _, _]) hm hmc
      refine rw_done ?_
      refine gn_sq ?_
      refine HW_seq rfl ?_
      refine HW_text (.pure 0 (.pure 1 (.pure 2 (.pure 3 (.pure 4 (.pure 5 (.act 6 .done))))))) (by kernel_rfl) ?_
      refine rw_p rfl rfl (y_move rfl) ?_
      refine rw_p rfl rfl (y_indexP rfl rfl ar59 (by omega) (by omega)) ?_
      refine rw_p rfl rfl (y_load rfl sc3 (hm.nt 0 rfl) rfl) ?_
      refine rw_p rfl rfl (y_indexP rfl rfl ar59 (by omega) (by omega)) ?_
      refine rw_p rfl rfl (y_load rfl sc3 (hm.nt 0 rfl) rfl) ?_
      refine rw_p rfl rfl (y_conv rfl is3 it35 rfl) ?_
      refine a_call rfl rfl rfl go14 (q_arm (Pl.nDv a c bs) mr _ _ (OwnZ.end (A := [_, _, _]) hm.ownZ) hy z1 (IntKind.u64.wrap z2) hz1 (kp_rng z2)) fun v w hR => ?_
      obtain ⟨rfl, Zr, hy, hmc⟩ := hR
      refine ⟨trivial, ?_⟩
      replace hm := Mem.callR (A := [_, _, _]) hm hmc
      obtain ⟨D, hDD⟩ : ∃ D, (Pl.aDv (Pl.nDv a c bs) z1 (IntKind.u64.wrap z2)) = D := ⟨_, rfl⟩
      have hcl : D.ca.length ≤ 1 := by rw [← hDD]; exact Nat.zero_le _
      rw [hDD] at hz hy
      have hDc : D.cnt = c := by rw [← hDD]; rfl
      refine rw_done ?_
      refine gn_sq ?_
      refine HW_seq rfl ?_
      refine HW_text (.pure 0 (.pure 1 (.pure 2 (.pure 3 (.pure 4 (.pure 5 (.pure 6 (.act 7 (.act 8 (.pure 9 .done)))))))))) (by kernel_rfl) ?_
      refine rw_p rfl rfl (y_move rfl) ?_
      refine rw_p rfl rfl (y_fieldAddr rfl fo47_0) ?_
      refine rw_p rfl rfl (y_load rfl sc3 (hm.nt 1 rfl) rfl) ?_
      refine rw_p rfl rfl (y_fieldAddr rfl fo47_1) ?_
      refine rw_p rfl rfl (y_load rfl sc27 (hm.nt 1 rfl) rfl) ?_
      refine rw_p rfl rfl (y_fieldAddr rfl fo47_2) ?_
      refine rw_p rfl rfl (y_load rfl sc27 (hm.nt 1 rfl) rfl) ?_
      refine a_buildSlice (l := [_, _]) rfl rfl sl96 z27 rfl rfl rfl rfl rfl rfl rfl hm trivial fun m4 w hg_m4 hm hh => ?_
      refine a_call rfl rfl rfl go20 (f_writeA D m _ _ (OwnZ.mid (A := [_, _, _, _]) hm.ownZ) hz x _ 2 [⟨p1, c1, b1⟩, ⟨p2, c2, b2⟩] BB hx (Rd.row0 (hm.get (k := 0) rfl)) (fun s hs => (List.mem_cons.1 hs).elim (fun e => by rw [e]; exact hb1.rd.ext0 hm.to) fun h => by rw [List.mem_singleton.1 h]; exact hb2.rd.ext0 hm.to) (by simp) (by rw [← hBB]; simp) (by omega) (by omega)) fun v w hR => ?_
      obtain ⟨rfl, Zw, hz, hmc⟩ := hR
      refine ⟨trivial, ?_⟩
      replace hm := Mem.callM (A := [_, _, _, _]) hm hmc
      obtain ⟨R9, hR9⟩ : ∃ R9, Pl.wrAll D x BB = R9 := ⟨_, rfl⟩
      rw [hR9] at hz ⊢
      obtain ⟨c9, D9⟩ := R9
      simp only at hz ⊢
      refine rw_p rfl rfl (y_assign rfl) ?_
      refine rw_done ?_
      refine gn_sq ?_
      refine HW_seq rfl ?_
      refine HW_draw (.pure 0 (.pure 1 (.pure 2 (.pure 4 (.pure 5 (.pure 7 (.pure 8 (.act 3 (.act 6 (.act 9 (.cut (.act 10 (.pure 11 .done))))))))))))) No mix (by kernel_rfl) hm fun w hw hm0 hh => ?_
      have hm := hm0
      refine rw_p rfl rfl (y_move rfl) ?_
      refine rw_p rfl rfl (y_fieldAddr rfl fo47_0) ?_
      refine rw_p rfl rfl (y_load rfl sc3 (hm0.nd 2 rfl id) rfl) ?_
      refine rw_p rfl rfl (y_fieldAddr rfl fo47_1) ?_
      refine rw_p rfl rfl (y_load rfl sc27 (hm0.nd 2 rfl id) rfl) ?_
      refine rw_p rfl rfl (y_fieldAddr rfl fo47_2) ?_
      refine rw_p rfl rfl (y_load rfl sc27 (hm0.nd 2 rfl id) rfl) ?_
      refine a_buildSlice (l := []) rfl rfl sl27 z5 rfl rfl rfl rfl rfl rfl rfl hm hh fun m5 w hg_m5 hm hh => ?_
      refine a_appendN rfl rfl rfl rfl rfl rfl sl27 sl27 z5 rfl (oneB b1) (hb1.rd.ext0 hm.to) (lenB b1) (Acc.row rfl) hm 0 rfl (by omega) (by omega) hh (fun _ => .inl hg_m5) fun p_k cap_k g_k b_k w _ ha_k hm hh hg_k => ?_
      rw [Nat.zero_add b1.length] at ha_k ⊢
      replace ha_k := ha_k.to (show _ = b1.flatMap encB from List.nil_append _)
      refine a_appendN rfl rfl rfl rfl rfl rfl sl27 sl27 z5 rfl (oneB b2) (hb2.rd.ext0 hm.to) (lenB b2) ha_k hm 0 rfl (by omega) (by omega) hh hg_k fun p_k cap_k g_k b_k w _ ha_k hm hh hg_k => ?_
      replace ha_k := ha_k.to (show _ = BB.flatMap encB by rw [← hBB, List.flatMap_append])
      have hnk : b1.length + b2.length = BB.length := by rw [← hBB, List.length_append]
      rw [hnk] at ha_k ⊢
      have hkle := ha_k.le
      refine a_cut ?_
      refine a_call rfl rfl rfl go24 (r20_writeA D mr _ _ (OwnZ.end (A := [_, _, _, _, _]) hm.ownZ) hy x p_k cap_k BB hx (by omega) (ha_k.rd hm 0 rfl) (fun h ad e h9 => hm.notR (A := [_, _, _, _, _]) ha_k 0 rfl h ad e (Mn_right h9)) (by omega)) fun v w hR => ?_
      obtain ⟨rfl, Zr, hy, hmc⟩ := hR
      refine ⟨trivial, ?_⟩
      replace hm := Mem.callR (A := [_, _, _, _, _]) hm hmc
      rw [hR9] at hy ⊢
      simp only at hy ⊢
      refine rw_p rfl rfl (y_assign rfl) ?_
      refine rw_done ?_
      refine gn_sq ?_
      refine HW_seq rfl ?_
      refine HW_seq rfl ?_
      refine HW_draw (.pure 0 (.pure 1 (.pure 2 (.pure 3 (.pure 4 (.pure 6 (.pure 7 (.pure 8 (.pure 9 (.act 5 (.pure 10 (.pure 11 (.pure 12 (.pure 13 (.pure 16 (.pure 17 (.pure 18 (.pure 19 (.act 14 (.pure 15 (.pure 20 (.pure 21 (.pure 22 (.pure 23 (.pure 25 (.pure 26 (.pure 27 (.pure 28 (.act 24 (.cut (.act 29 (.pure 30 (.pure 31 .done))))))))))))))))))))))))))))))))) No mix (by kernel_rfl) hm fun w hw hm0 hh => ?_
      have hm := hm0
      obtain ⟨qB_, kB_, qC_, kC_, cs, hPy, hd9, hp9, hw9⟩ := hy.row (OwnZ.end (A := [_, _, _, _, _]) hm.ownZ)
      have hl9 : D9.dk.length ≤ 1048576 := by rw [hz.ok.len]; exact hz.ok.max
      refine rw_p rfl rfl (y_move rfl) ?_
      refine rw_p rfl rfl (y_move rfl) ?_
      refine rw_p rfl rfl (y_as (c := false) (y_ne rfl rfl) (decide_eq_false (fun h => h rfl))) ?_
      refine rw_p rfl rfl (y_move rfl) ?_
      refine rw_p rfl rfl (y_move rfl) ?_
      refine rw_p rfl rfl (y_move rfl) ?_
      refine rw_p rfl rfl (y_nil rfl) ?_
      refine rw_p rfl rfl (y_fieldAddr rfl fo52_6) ?_
      refine rw_p rfl rfl (y_load rfl sc4 (fun u hu => (Ext.same hu _ (Array.getElem?_eq_some_iff.1 hPy).1 id).trans hPy) rfl) ?_
      refine a_call rfl rfl rfl go25 (o_down D9 m _ _ (OwnZ.mid (A := [_, _, _, _, _]) hm.ownZ) hz) fun v w hR => ?_
      obtain ⟨rfl, hE⟩ := hR
      refine ⟨hh.ext hE, ?_⟩
      replace hm := hm.ext hE
      replace hh := hh.ext hE
      refine rw_p rfl rfl (y_as (c := false) (y_bneq rfl rfl un4) (by simp)) ?_
      refine rw_p rfl rfl (y_pickF rfl rfl) ?_
      refine rw_p rfl rfl (y_move rfl) ?_
      refine rw_p rfl rfl (y_move rfl) ?_
      refine rw_p rfl rfl (y_move rfl) ?_
      refine rw_p rfl rfl (y_nil rfl) ?_
      refine rw_p rfl rfl (y_fieldAddr rfl fo52_7) ?_
      refine rw_p rfl rfl (y_load rfl sc3 (fun u hu => (Ext.same hu _ (Array.getElem?_eq_some_iff.1 hPy).1 id).trans hPy) rfl) ?_
      refine a_call rfl rfl rfl go22 (o_stats D9 m _ _ (OwnZ.mid (A := [_, _, _, _, _]) hm.ownZ) hz) fun v w hR => ?_
      obtain ⟨rfl, hE⟩ := hR
      refine ⟨hh.ext hE, ?_⟩
      replace hm := hm.ext hE
      replace hh := hh.ext hE
      refine rw_p rfl rfl (y_fieldV rfl fv55_0 rfl) ?_
      refine rw_p rfl rfl (y_as (c := false) (y_ne rfl rfl) (decide_eq_false (fun h => h rfl))) ?_
      refine rw_p rfl rfl (y_pickF rfl rfl) ?_
      refine rw_p rfl rfl (y_move rfl) ?_
      refine rw_p rfl rfl (y_move rfl) ?_
      refine rw_p rfl rfl (y_move rfl) ?_
      refine rw_p rfl rfl (y_nil rfl) ?_
      refine rw_p rfl rfl (y_fieldAddr rfl fo52_2) ?_
      refine rw_p rfl rfl (y_load rfl sc27 (fun u hu => (Ext.same hu _ (Array.getElem?_eq_some_iff.1 hPy).1 id).trans hPy) rfl) ?_
      refine a_call rfl rfl rfl go23 (o_disk D9 m _ _ (OwnZ.mid (A := [_, _, _, _, _]) hm.ownZ) hz) fun v w hR => ?_
      obtain ⟨p_s, cap_s, g_s, b_s, rfl, ha_s, hmc⟩ := hR
      refine ⟨hh.ext hmc.to, ?_⟩
      have hg_s : b_s.real = true → _ := fun hr => (hmc.fresh _ List.mem_cons_self hr).resolve_left id
      replace hh := hh.ext hmc.to
      replace hm := hm.callN hmc
      refine a_cut ?_
      refine a_call rfl rfl rfl go18 (C.as (v := .bool true) (eq_b p_s qB_ cap_s kB_ D9.dk D9.dk _ (ha_s.rd hm 0 rfl) (hd9.rd (hm.pickT [] 6 rfl) (fun e he => show e ∈ Zw ++ Zr from List.mem_append_right _ he)) (by omega) (by omega)) (congrArg Value.bool (decide_eq_true rfl))) fun v w hR => ?_
      obtain ⟨rfl, hE⟩ := hR
      refine ⟨trivial, ?_⟩
      replace hm := hm.ext hE
      refine rw_p rfl rfl (y_not rfl) ?_
      refine rw_p rfl rfl (y_pickF rfl rfl) ?_
      refine rw_done ?_
      refine gn_sq ?_
      refine HW_condF rfl rfl rfl ?_
      refine HW_skip rfl ?_
      refine gn_sq ?_
      refine HW_seq rfl ?_
      refine HW_text (.act 0 (.pure 1 (.pure 2 (.pure 3 (.pure 4 (.pure 5 (.act 6 (.act 7 (.pure 8 (.pure 9 (.pure 10 .done))))))))))) (by kernel_rfl) ?_
      refine a_call rfl rfl rfl go8 (law_alive _) fun v w hR => ?_
      obtain ⟨rfl, hE⟩ := hR
      refine ⟨trivial, ?_⟩
      replace hm := hm.ext hE
      refine rw_p rfl rfl (y_move rfl) ?_
      refine rw_p rfl rfl (y_fieldAddr rfl fo47_0) ?_
      refine rw_p rfl rfl (y_load rfl sc3 (hm.nt 4 rfl) rfl) ?_
      refine rw_p rfl rfl (y_fieldAddr rfl fo47_1) ?_
      refine rw_p rfl rfl (y_load rfl sc27 (hm.nt 4 rfl) rfl) ?_
      refine a_buildSlice (l := [_]) rfl rfl sl96 z27 rfl rfl rfl rfl rfl rfl rfl hm trivial fun m6 w hg_m6 hm hh => ?_
      refine a_call rfl rfl rfl go20 (f_writeN x _ 1 [⟨p1, c1, b1⟩] b1 _ (Rd.row0 (hm.get (k := 0) rfl)) (fun s hs => by rw [List.mem_singleton.1 hs]; exact hb1.rd.ext0 hm.to) (by simp) (by simp) (by omega)) fun v w hR => ?_
      obtain ⟨rfl, hE⟩ := hR
      refine ⟨trivial, ?_⟩
      replace hm := hm.ext hE
      refine rw_p rfl rfl (y_as (c := true) (y_eq rfl rfl) (by decide)) ?_
      refine rw_p rfl rfl (y_pickT rfl rfl) ?_
      refine rw_p rfl rfl (y_assign rfl) ?_
      refine rw_done ?_
      refine gn_sq ?_
      refine HW_ret rfl ?_
      refine toR (fin hret rfl (.tmp rfl .nil) .one ?_)
      exact ⟨rfl, hm.to⟩
  ·
    refine HW_text (.pure 0 (.act 1 (.pure 2 (.pure 3 (.pure 4 (.pure 5 (.pure 6 .done))))))) (by kernel_rfl) ?_
    refine rw_p rfl rfl (y_loadA (s := 3) (vs := [_, _, _]) rfl ag29 (hm.nt 2 rfl) rfl) ?_
    refine a_call rfl rfl rfl go11 (mk_bad u1 u2 pb cb bs _ (hbk.ext hm.to) hu1 hu2 hmk) fun v w hR => ?_
    obtain ⟨rfl, hE⟩ := hR
    refine ⟨trivial, ?_⟩
    replace hm := hm.ext hE
    refine rw_p rfl rfl (y_move rfl) ?_
    refine rw_p rfl rfl (y_extract rfl rfl) ?_
    refine rw_p rfl rfl (y_extract rfl rfl) ?_
    refine rw_p rfl rfl (y_assign rfl) ?_
    refine rw_p rfl rfl (y_assign rfl) ?_
    refine rw_done ?_
    refine gn_sq ?_
    refine HW_seq rfl ?_
    refine HW_seq rfl ?_
    refine HW_text (.pure 0 (.pure 1 (.pure 2 (.pure 3 (.pure 4 (.pure 5 (.pure 6 (.pure 7 (.pure 8 (.pure 9 (.pure 10 (.pure 11 (.pure 12 (.pure 13 .done)))))))))))))) (by kernel_rfl) ?_
    refine rw_p rfl rfl (y_move rfl) ?_
    refine rw_p rfl rfl (y_pnil rfl rfl pb31) ?_
    refine rw_p rfl rfl (y_move rfl) ?_
    refine rw_gf rfl rfl (by decide) rfl ?_
    refine rw_gf rfl rfl (by decide) rfl ?_
    refine rw_gf rfl rfl (by decide) rfl ?_
    refine rw_gf rfl rfl (by decide) rfl ?_
    refine rw_p rfl rfl (y_pickT rfl rfl) ?_
    refine rw_p rfl rfl (y_move rfl) ?_
    refine rw_gf rfl rfl (by decide) rfl ?_
    refine rw_gf rfl rfl (by decide) rfl ?_
    refine rw_gf rfl rfl (by decide) rfl ?_
    refine rw_gf rfl rfl (by decide) rfl ?_
    refine rw_p rfl rfl (y_pickT rfl rfl) ?_
    refine rw_done ?_
    refine gn_sq ?_
    refine HW_condT rfl rfl rfl ?_
    refine HW_seq rfl ?_
    refine HW_text (.act 0 (.pure 1 .done)) (by kernel_rfl) ?_
    refine a_call rfl rfl rfl go8 (law_alive _) fun v w hR => ?_
    obtain ⟨rfl, hE⟩ := hR
    refine ⟨trivial, ?_⟩
    replace hm := hm.ext hE
    refine rw_p rfl rfl (y_assign rfl) ?_
    refine rw_done ?_
    refine gn_sq ?_
    refine HW_ret rfl ?_
    refine gr_sq ?_
    refine toR (fin hret rfl (.tmp rfl .nil) .one ?_)
    exact ⟨rfl, hm.to⟩

end Go.Proofs.Ytkllojjpaelmhaa
