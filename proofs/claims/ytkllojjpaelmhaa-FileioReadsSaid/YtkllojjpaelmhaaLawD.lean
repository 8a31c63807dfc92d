/- Contracts of functions of the program: what each returns. Conditions: the hypotheses of each theorem. -/
import Derived.Test.YtkllojjpaelmhaaLaw
set_option linter.unusedVariables false
set_option linter.unusedSimpArgs false
namespace Go.Proofs.Ytkllojjpaelmhaa
open Go Go.Cx

theorem ag29 : aggS Try.prog 29 = some 3 := by kernel_rfl
theorem go11 : isGo Try.prog 11 = true := by kernel_rfl
theorem go12 : isGo Try.prog 12 = true := by kernel_rfl
theorem go14 : isGo Try.prog 14 = true := by kernel_rfl
theorem go17 : isGo Try.prog 17 = true := by kernel_rfl
theorem go18 : isGo Try.prog 18 = true := by kernel_rfl
theorem pb31 : ptrB Try.prog 31 = true := by kernel_rfl

set_option maxHeartbeats 3200000 in
theorem law_reads (u1 u2 : Int) (pb : Option Addr) (cb : Nat) (bs : List UInt8) (x y : Int) (dn : Bool) (w0 : World) (hbk : SB.ok w0 ⟨pb, cb, bs⟩) (hu1 : Pl.I64 u1) (hu2 : Pl.I64 u2) (hx : Pl.I64 x) (hy9 : Pl.I64 y) : C Try.prog 4 [.agg ⟨[.int .i64 u1, .int .i64 u2, .slice pb bs.length cb]⟩, .agg ⟨[.int .i64 x, .int .i64 y]⟩, .bool dn] w0 fun v w' => v = .bool true ∧ Ext No w0 w' := by
  simp only [Pl.I64] at hu1 hu2
  have hbl := hbk.le
  have hbm := hbk.max
  simp only at hbl hbm
  refine C_of Try.func4 rfl rfl rfl fun κ hret hnorm => ?_
  have hm := Mem.start w0
  refine HW_seq rfl ?_
  refine HW_text (.act 0 (.act 1 (.pure 2 .done))) (by kernel_rfl) ?_
  refine a_box rfl rfl rfl rfl hm trivial fun m1 w hg_m1 hm hh => ?_
  refine a_box rfl rfl rfl rfl hm trivial fun m2 w hg_m2 hm hh => ?_
  refine rw_p rfl rfl (y_assign rfl) ?_
  refine rw_done ?_
  refine gn_sq ?_
  refine HW_seq rfl ?_
  by_cases hmk : Pl.right u1 u2 bs.length = true ∧ u1 * u2 ≤ 2000
  ·
    obtain ⟨hrt, h2k⟩ := hmk
    obtain ⟨h1, h2, h3, h4⟩ := Pl.right_of hrt
    obtain ⟨a, rfl⟩ : ∃ a : Nat, u1 = a := ⟨u1.toNat, by omega⟩
    obtain ⟨c, rfl⟩ : ∃ c : Nat, u2 = c := ⟨u2.toNat, by omega⟩
    have hac : (a : Int) * (c : Int) = ((c * a : Nat) : Int) := by rw [Nat.mul_comm]; norm_cast
    rw [hac] at h2k h3 h4
    have hca : 1 ≤ c * a := Nat.mul_pos (by omega) (by omega)
    have ha9 : a ≤ c * a := Nat.le_mul_of_pos_left _ (by omega)
    have hc9 : c ≤ c * a := Nat.le_mul_of_pos_right _ (by omega)
    have hMM : IntKind.i64.wrap ((a : Int) * (c : Int)) = ((c * a : Nat) : Int) := by rw [hac]; exact i64w (by omega) (by omega)
    refine HW_text (.pure 0 (.act 1 (.pure 2 (.pure 3 (.pure 4 (.pure 5 (.pure 6 .done))))))) (by kernel_rfl) ?_
    refine rw_p rfl rfl (y_loadA (s := 3) (vs := [_, _, _]) rfl ag29 (hm.nt 1 rfl) rfl) ?_
    refine a_call rfl rfl rfl go11 (mk_ok a c pb cb bs _ (hbk.ext hm.to) hrt (by omega)) fun v w hR => ?_
    obtain ⟨m, mr, Zw, Zr, rfl, hz, hy, hmc⟩ := hR
    refine ⟨trivial, ?_⟩
    replace hm := hm.callTZ hmc
    refine rw_p rfl rfl (y_move rfl) ?_
    refine rw_p rfl rfl (y_extract rfl rfl) ?_
    refine rw_p rfl rfl (y_extract rfl rfl) ?_
    refine rw_p rfl rfl (y_assign rfl) ?_
    refine rw_p rfl rfl (y_assign rfl) ?_
    refine rw_done ?_
    refine gn_sq ?_
    refine HW_seq rfl ?_
    refine HW_seq rfl ?_
    refine HW_text (.pure 0 (.pure 1 .done)) (by kernel_rfl) ?_
    refine rw_p rfl rfl (y_move rfl) ?_
    refine rw_p rfl rfl (y_pnil rfl rfl pb31) ?_
    refine rw_done ?_
    refine gn_sq ?_
    refine HW_condF rfl rfl rfl ?_
    refine HW_skip rfl ?_
    refine gn_sq ?_
    refine HW_seq rfl ?_
    refine HW_seq rfl ?_
    refine HW_text (.pure 0 (.pure 1 .done)) (by kernel_rfl) ?_
    refine rw_p rfl rfl (y_move rfl) ?_
    refine rw_p rfl rfl (y_pnil rfl rfl pb30) ?_
    refine rw_done ?_
    refine gn_sq ?_
    refine HW_condF rfl rfl rfl ?_
    refine HW_skip rfl ?_
    refine gn_sq ?_
    refine HW_seq rfl ?_
    refine HW_seq rfl ?_
    refine HW_text (.pure 0 .done) (by kernel_rfl) ?_
    refine rw_p rfl rfl (y_move rfl) ?_
    refine rw_done ?_
    refine gn_sq ?_
    refine HW_cond rfl rfl (fun hc2 => ?_) (fun hc2 => ?_)
    ·
      refine HW_seq rfl ?_
      refine HW_text (.pure 0 (.act 1 .done)) (by kernel_rfl) ?_
      refine rw_p rfl rfl (y_move rfl) ?_
      refine a_call rfl rfl rfl go12 (o_arm (Pl.nDv a c bs) m _ _ (OwnZ.mid (A := [_, _]) hm.ownZ) hz 0 0 (by decide) (by decide)) fun v w hR => ?_
      obtain ⟨rfl, Zw, hz, hmc⟩ := hR
      refine ⟨trivial, ?_⟩
      replace hm := Mem.callM (A := [_, _]) hm hmc
      refine rw_done ?_
      refine gn_sq ?_
      refine HW_seq rfl ?_
      refine HW_text (.pure 0 (.pure 1 (.pure 2 (.act 3 (.act 4 .done))))) (by kernel_rfl) ?_
      refine rw_p rfl rfl (y_move rfl) ?_
      refine rw_p rfl rfl (y_fieldAddr rfl fo29_0) ?_
      refine rw_p rfl rfl (y_load rfl sc3 (hm.nt 1 rfl) rfl) ?_
      refine a_make rfl rfl rfl rfl sl27 z5 rfl (by omega) (by omega) (by omega) hm trivial fun g_f w hg_f ha_f hm hh => ?_
      replace ha_f := ha_f.to (repB a)
      refine a_call rfl rfl rfl go13 (C.eqv (o_write (Pl.aDv (Pl.nDv a c bs) 0 0) m _ _ (OwnZ.mid (A := [_, _, _]) hm.ownZ) hz _ a (List.replicate a 0) 0 (ha_f.rd hm 0 rfl) (fun _ ad e h9 => by cases e; exact Mem.notT (A := [_, _, _]) hm (k := 0) rfl rfl (Mn_left h9)) (by rw [List.length_replicate]; exact Nat.le_refl _) (Nat.zero_le _)) (by rw [List.length_replicate] <;> rfl)) fun v w hR => ?_
      obtain ⟨rfl, Zw, hz, hmc⟩ := hR
      refine ⟨trivial, ?_⟩
      replace hm := Mem.callM (A := [_, _, _]) hm hmc
      refine rw_done ?_
      refine gn_sq ?_
      refine HW_seq rfl ?_
      refine HW_text (.pure 0 (.act 1 .done)) (by kernel_rfl) ?_
      refine rw_p rfl rfl (y_move rfl) ?_
      refine a_call rfl rfl rfl go14 (q_arm (Pl.nDv a c bs) mr _ _ (OwnZ.end (A := [_, _, _]) hm.ownZ) hy 0 0 (by decide) (by decide)) fun v w hR => ?_
      obtain ⟨rfl, Zr, hy, hmc⟩ := hR
      refine ⟨trivial, ?_⟩
      replace hm := Mem.callR (A := [_, _, _]) hm hmc
      refine rw_done ?_
      refine gn_sq ?_
      refine HW_text (.pure 0 (.pure 1 (.pure 2 (.act 3 (.act 4 .done))))) (by kernel_rfl) ?_
      refine rw_p rfl rfl (y_move rfl) ?_
      refine rw_p rfl rfl (y_fieldAddr rfl fo29_0) ?_
      refine rw_p rfl rfl (y_load rfl sc3 (hm.nt 2 rfl) rfl) ?_
      refine a_make rfl rfl rfl rfl sl27 z5 rfl (by omega) (by omega) (by omega) hm trivial fun g_k w hg_k ha_k hm hh => ?_
      replace ha_k := ha_k.to (repB a)
      refine a_call rfl rfl rfl go15 (C.eqv (q_put (Pl.aDv (Pl.nDv a c bs) 0 0) mr _ _ (OwnZ.end (A := [_, _, _, _]) hm.ownZ) hy _ a (List.replicate a 0) 0 (ha_k.rd hm 0 rfl) (fun _ ad e h9 => by cases e; exact Mem.notT (A := [_, _, _, _]) hm (k := 0) rfl rfl (Mn_right h9)) (by rw [List.length_replicate]; exact Nat.le_refl _) (Nat.zero_le _)) (by rw [List.length_replicate] <;> rfl)) fun v w hR => ?_
      obtain ⟨rfl, Zr, hy, hmc⟩ := hR
      refine ⟨trivial, ?_⟩
      replace hm := Mem.callR (A := [_, _, _, _]) hm hmc
      obtain ⟨D, hDD⟩ : ∃ D, (Pl.wDv (Pl.aDv (Pl.nDv a c bs) 0 0) 0 (List.replicate a 0)) = D := ⟨_, rfl⟩
      have hcl : D.ca.length ≤ 1 := by rw [← hDD]; exact (Pl.wDv_sz _ _ _).2.2
      rw [hDD] at hz hy
      refine rw_done ?_
      refine gn_sq ?_
      refine HW_seq rfl ?_
      refine HW_text (.pure 0 (.pure 1 (.act 2 (.pure 3 (.pure 4 (.pure 5 (.pure 6 (.pure 7 .done)))))))) (by kernel_rfl) ?_
      refine rw_p rfl rfl (y_move rfl) ?_
      refine rw_p rfl rfl (y_loadA (s := 2) (vs := [_, _]) rfl ag23 (hm.nt 2 rfl) rfl) ?_
      refine a_call rfl rfl rfl go16 (f_readA D m _ _ (OwnZ.mid (A := [_, _, _, _]) hm.ownZ) hz x y hx hy9) fun v w hR => ?_
      obtain ⟨p_s, cap_s, g_s, b_s, rfl, ha_s, hmc⟩ := hR
      refine ⟨trivial, ?_⟩
      have hg_s : b_s.real = true → _ := fun hr => (hmc.fresh _ List.mem_cons_self hr).resolve_left id
      replace hm := hm.callN hmc
      refine rw_p rfl rfl (y_move rfl) ?_
      refine rw_p rfl rfl (y_extract rfl rfl) ?_
      refine rw_p rfl rfl (y_extract rfl rfl) ?_
      refine rw_p rfl rfl (y_assign rfl) ?_
      refine rw_p rfl rfl (y_assign rfl) ?_
      refine rw_done ?_
      refine gn_sq ?_
      refine HW_seq rfl ?_
      refine HW_text (.pure 0 (.pure 1 (.act 2 (.pure 3 (.pure 4 (.pure 5 (.pure 6 (.pure 7 .done)))))))) (by kernel_rfl) ?_
      refine rw_p rfl rfl (y_move rfl) ?_
      refine rw_p rfl rfl (y_loadA (s := 2) (vs := [_, _]) rfl ag23 (hm.nt 3 rfl) rfl) ?_
      refine a_call rfl rfl rfl go17 (r20_read D mr _ _ (OwnZ.end (A := [_, _, _, _, _]) hm.ownZ) hy x y hx hy9 (by omega)) fun v w hR => ?_
      obtain ⟨p_t, cap_t, rfl, hR_t, hE⟩ := hR
      refine ⟨trivial, ?_⟩
      replace hm := hm.ext hE
      refine rw_p rfl rfl (y_move rfl) ?_
      refine rw_p rfl rfl (y_extract rfl rfl) ?_
      refine rw_p rfl rfl (y_extract rfl rfl) ?_
      refine rw_p rfl rfl (y_assign rfl) ?_
      refine rw_p rfl rfl (y_assign rfl) ?_
      refine rw_done ?_
      refine gn_sq ?_
      refine HW_seq rfl ?_
      refine HW_text (.pure 0 (.act 1 (.pure 2 (.pure 3 (.pure 4 (.pure 5 (.pure 6 .done))))))) (by kernel_rfl) ?_
      refine rw_p rfl rfl (y_loadA (s := 2) (vs := [_, _]) rfl ag23 (hm.nt 3 rfl) rfl) ?_
      refine a_call rfl rfl rfl go16 (f_readN x y _) fun v w hR => ?_
      obtain ⟨⟨x9, rfl⟩, hE⟩ := hR
      refine ⟨trivial, ?_⟩
      replace hm := hm.ext hE
      replace hR_t := hR_t.ext0 hE
      refine rw_p rfl rfl (y_move rfl) ?_
      refine rw_p rfl rfl (y_extract rfl rfl) ?_
      refine rw_p rfl rfl (y_extract rfl rfl) ?_
      refine rw_p rfl rfl (y_assign rfl) ?_
      refine rw_p rfl rfl (y_assign rfl) ?_
      refine rw_done ?_
      refine gn_sq ?_
      refine HW_seq rfl ?_
      refine HW_text (.act 0 (.pure 1 (.pure 2 (.pure 3 (.act 4 (.pure 5 (.pure 6 (.pure 7 (.pure 8 (.pure 9 (.pure 10 (.pure 11 (.pure 12 (.pure 13 (.pure 14 (.pure 15 .done)))))))))))))))) (by kernel_rfl) ?_
      refine a_call rfl rfl rfl go8 (law_alive _) fun v w hR => ?_
      obtain ⟨rfl, hE⟩ := hR
      refine ⟨trivial, ?_⟩
      replace hm := hm.ext hE
      replace hR_t := hR_t.ext0 hE
      have hRl := rdB_len hz.ok x y
      refine rw_p rfl rfl (y_move rfl) ?_
      refine rw_p rfl rfl (y_move rfl) ?_
      refine rw_p rfl rfl (y_move rfl) ?_
      refine a_call rfl rfl rfl go18 (C.as (v := .bool true) (eq_b p_s p_t cap_s cap_t (Pl.rdB D x y) (Pl.rdB D x y) _ (ha_s.rd hm 0 rfl) hR_t (by omega) (by omega)) (congrArg Value.bool (decide_eq_true rfl))) fun v w hR => ?_
      obtain ⟨rfl, hE⟩ := hR
      refine ⟨trivial, ?_⟩
      replace hm := hm.ext hE
      refine rw_p rfl rfl (y_pickT rfl rfl) ?_
      refine rw_p rfl rfl (y_move rfl) ?_
      refine rw_p rfl rfl (y_move rfl) ?_
      refine rw_p rfl rfl (y_move rfl) ?_
      refine rw_p rfl rfl (y_as (c := true) (y_eq rfl rfl) (decide_eq_true rfl)) ?_
      refine rw_p rfl rfl (y_pickT rfl rfl) ?_
      refine rw_p rfl rfl (y_move rfl) ?_
      refine rw_p rfl rfl (y_move rfl) ?_
      refine rw_p rfl rfl (y_as (c := true) (y_eq rfl rfl) (by decide)) ?_
      refine rw_p rfl rfl (y_pickT rfl rfl) ?_
      refine rw_p rfl rfl (y_assign rfl) ?_
      refine rw_done ?_
      refine gn_sq ?_
      refine HW_ret rfl ?_
      refine toR (fin hret rfl (.tmp rfl .nil) .one ?_)
      exact ⟨rfl, hm.to⟩
    ·
      obtain ⟨D, hDD⟩ : ∃ D, (Pl.nDv a c bs) = D := ⟨_, rfl⟩
      have hcl : D.ca.length ≤ 1 := by rw [← hDD]; exact Nat.zero_le _
      rw [hDD] at hz hy
      refine HW_skip rfl ?_
      refine gn_sq ?_
      refine HW_seq rfl ?_
      refine HW_text (.pure 0 (.pure 1 (.act 2 (.pure 3 (.pure 4 (.pure 5 (.pure 6 (.pure 7 .done)))))))) (by kernel_rfl) ?_
      refine rw_p rfl rfl (y_move rfl) ?_
      refine rw_p rfl rfl (y_loadA (s := 2) (vs := [_, _]) rfl ag23 (hm.nt 0 rfl) rfl) ?_
      refine a_call rfl rfl rfl go16 (f_readA D m _ _ (OwnZ.mid (A := [_, _]) hm.ownZ) hz x y hx hy9) fun v w hR => ?_
      obtain ⟨p_s, cap_s, g_s, b_s, rfl, ha_s, hmc⟩ := hR
      refine ⟨trivial, ?_⟩
      have hg_s : b_s.real = true → _ := fun hr => (hmc.fresh _ List.mem_cons_self hr).resolve_left id
      replace hm := hm.callN hmc
      refine rw_p rfl rfl (y_move rfl) ?_
      refine rw_p rfl rfl (y_extract rfl rfl) ?_
      refine rw_p rfl rfl (y_extract rfl rfl) ?_
      refine rw_p rfl rfl (y_assign rfl) ?_
      refine rw_p rfl rfl (y_assign rfl) ?_
      refine rw_done ?_
      refine gn_sq ?_
      refine HW_seq rfl ?_
      refine HW_text (.pure 0 (.pure 1 (.act 2 (.pure 3 (.pure 4 (.pure 5 (.pure 6 (.pure 7 .done)))))))) (by kernel_rfl) ?_
      refine rw_p rfl rfl (y_move rfl) ?_
      refine rw_p rfl rfl (y_loadA (s := 2) (vs := [_, _]) rfl ag23 (hm.nt 1 rfl) rfl) ?_
      refine a_call rfl rfl rfl go17 (r20_read D mr _ _ (OwnZ.end (A := [_, _, _]) hm.ownZ) hy x y hx hy9 (by omega)) fun v w hR => ?_
      obtain ⟨p_t, cap_t, rfl, hR_t, hE⟩ := hR
      refine ⟨trivial, ?_⟩
      replace hm := hm.ext hE
      refine rw_p rfl rfl (y_move rfl) ?_
      refine rw_p rfl rfl (y_extract rfl rfl) ?_
      refine rw_p rfl rfl (y_extract rfl rfl) ?_
      refine rw_p rfl rfl (y_assign rfl) ?_
      refine rw_p rfl rfl (y_assign rfl) ?_
      refine rw_done ?_
      refine gn_sq ?_
      refine HW_seq rfl ?_
      refine HW_text (.pure 0 (.act 1 (.pure 2 (.pure 3 (.pure 4 (.pure 5 (.pure 6 .done))))))) (by kernel_rfl) ?_
      refine rw_p rfl rfl (y_loadA (s := 2) (vs := [_, _]) rfl ag23 (hm.nt 1 rfl) rfl) ?_
      refine a_call rfl rfl rfl go16 (f_readN x y _) fun v w hR => ?_
      obtain ⟨⟨x9, rfl⟩, hE⟩ := hR
      refine ⟨trivial, ?_⟩
      replace hm := hm.ext hE
      replace hR_t := hR_t.ext0 hE
      refine rw_p rfl rfl (y_move rfl) ?_
      refine rw_p rfl rfl (y_extract rfl rfl) ?_
      refine rw_p rfl rfl (y_extract rfl rfl) ?_
      refine rw_p rfl rfl (y_assign rfl) ?_
      refine rw_p rfl rfl (y_assign rfl) ?_
      refine rw_done ?_
      refine gn_sq ?_
      refine HW_seq rfl ?_
      refine HW_text (.act 0 (.pure 1 (.pure 2 (.pure 3 (.act 4 (.pure 5 (.pure 6 (.pure 7 (.pure 8 (.pure 9 (.pure 10 (.pure 11 (.pure 12 (.pure 13 (.pure 14 (.pure 15 .done)))))))))))))))) (by kernel_rfl) ?_
      refine a_call rfl rfl rfl go8 (law_alive _) fun v w hR => ?_
      obtain ⟨rfl, hE⟩ := hR
      refine ⟨trivial, ?_⟩
      replace hm := hm.ext hE
      replace hR_t := hR_t.ext0 hE
      have hRl := rdB_len hz.ok x y
      refine rw_p rfl rfl (y_move rfl) ?_
      refine rw_p rfl rfl (y_move rfl) ?_
      refine rw_p rfl rfl (y_move rfl) ?_
      refine a_call rfl rfl rfl go18 (C.as (v := .bool true) (eq_b p_s p_t cap_s cap_t (Pl.rdB D x y) (Pl.rdB D x y) _ (ha_s.rd hm 0 rfl) hR_t (by omega) (by omega)) (congrArg Value.bool (decide_eq_true rfl))) fun v w hR => ?_
      obtain ⟨rfl, hE⟩ := hR
      refine ⟨trivial, ?_⟩
      replace hm := hm.ext hE
      refine rw_p rfl rfl (y_pickT rfl rfl) ?_
      refine rw_p rfl rfl (y_move rfl) ?_
      refine rw_p rfl rfl (y_move rfl) ?_
      refine rw_p rfl rfl (y_move rfl) ?_
      refine rw_p rfl rfl (y_as (c := true) (y_eq rfl rfl) (decide_eq_true rfl)) ?_
      refine rw_p rfl rfl (y_pickT rfl rfl) ?_
      refine rw_p rfl rfl (y_move rfl) ?_
      refine rw_p rfl rfl (y_move rfl) ?_
      refine rw_p rfl rfl (y_as (c := true) (y_eq rfl rfl) (by decide)) ?_
      refine rw_p rfl rfl (y_pickT rfl rfl) ?_
      refine rw_p rfl rfl (y_assign rfl) ?_
      refine rw_done ?_
      refine gn_sq ?_
      refine HW_ret rfl ?_
      refine toR (fin hret rfl (.tmp rfl .nil) .one ?_)
      exact ⟨rfl, hm.to⟩
  ·
    refine HW_text (.pure 0 (.act 1 (.pure 2 (.pure 3 (.pure 4 (.pure 5 (.pure 6 .done))))))) (by kernel_rfl) ?_
    refine rw_p rfl rfl (y_loadA (s := 3) (vs := [_, _, _]) rfl ag29 (hm.nt 1 rfl) rfl) ?_
    refine a_call rfl rfl rfl go11 (mk_bad u1 u2 pb cb bs _ (hbk.ext hm.to) hu1 hu2 hmk) fun v w hR => ?_
    obtain ⟨rfl, hE⟩ := hR
    refine ⟨trivial, ?_⟩
    replace hm := hm.ext hE
    refine rw_p rfl rfl (y_move rfl) ?_
    refine rw_p rfl rfl (y_extract rfl rfl) ?_
    refine rw_p rfl rfl (y_extract rfl rfl) ?_
    refine rw_p rfl rfl (y_assign rfl) ?_
    refine rw_p rfl rfl (y_assign rfl) ?_
    refine rw_done ?_
    refine gn_sq ?_
    refine HW_seq rfl ?_
    refine HW_seq rfl ?_
    refine HW_text (.pure 0 (.pure 1 .done)) (by kernel_rfl) ?_
    refine rw_p rfl rfl (y_move rfl) ?_
    refine rw_p rfl rfl (y_pnil rfl rfl pb31) ?_
    refine rw_done ?_
    refine gn_sq ?_
    refine HW_condT rfl rfl rfl ?_
    refine HW_seq rfl ?_
    refine HW_text (.act 0 (.pure 1 .done)) (by kernel_rfl) ?_
    refine a_call rfl rfl rfl go8 (law_alive _) fun v w hR => ?_
    obtain ⟨rfl, hE⟩ := hR
    refine ⟨trivial, ?_⟩
    replace hm := hm.ext hE
    refine rw_p rfl rfl (y_assign rfl) ?_
    refine rw_done ?_
    refine gn_sq ?_
    refine HW_ret rfl ?_
    refine gr_sq ?_
    refine toR (fin hret rfl (.tmp rfl .nil) .one ?_)
    exact ⟨rfl, hm.to⟩

end Go.Proofs.Ytkllojjpaelmhaa
