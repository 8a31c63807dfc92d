/- Contracts of functions of the program: what each returns. Conditions: the hypotheses of each theorem. -/
import Derived.Test.YthailbggeafckaaJnG
set_option linter.unusedVariables false
set_option linter.unusedSimpArgs false
namespace Go.Proofs.Ythailbggeafckaa
open Go Go.Cx

theorem ag29 : aggS Try.prog 29 = some 6 := by kernel_rfl
theorem fl47 : flat Try.prog 47 [.num .i64, .num .i64, .num .i64, .num .i64, .num .i64] = true := by kernel_rfl
theorem fo29_3 : fldO Try.prog 29 3 = some 3 := by kernel_rfl
theorem fo29_4 : fldO Try.prog 29 4 = some 4 := by kernel_rfl
theorem fo29_5 : fldO Try.prog 29 5 = some 5 := by kernel_rfl
theorem fv47_0 : fldV Try.prog 47 0 = some (0, 1, false) := by kernel_rfl
theorem fv47_1 : fldV Try.prog 47 1 = some (1, 1, false) := by kernel_rfl
theorem fv51_1 : fldV Try.prog 51 1 = some (1, 1, false) := by kernel_rfl
theorem go11 : isGo Try.prog 11 = true := by kernel_rfl
theorem go12 : isGo Try.prog 12 = true := by kernel_rfl
theorem go16 : isGo Try.prog 16 = true := by kernel_rfl
theorem go19 : isGo Try.prog 19 = true := by kernel_rfl
theorem go20 : isGo Try.prog 20 = true := by kernel_rfl
theorem go21 : isGo Try.prog 21 = true := by kernel_rfl
theorem go22 : isGo Try.prog 22 = true := by kernel_rfl
theorem pb33 : ptrB Try.prog 33 = true := by kernel_rfl

set_option maxHeartbeats 3200000 in
theorem law_formats (u1 u2 : Int) (pb : Option Addr) (cb : Nat) (bs : List UInt8) (f b k : Int) (w0 : World) (hbk : SB.ok w0 ⟨pb, cb, bs⟩) (hu1 : Pl.I64 u1) (hu2 : Pl.I64 u2) (hf : Pl.I64 f) (hb : Pl.I64 b) (hk : 0 ≤ k ∧ k ≤ 18446744073709551615) : C Try.prog 5 [.agg ⟨[.int .i64 u1, .int .i64 u2, .slice pb bs.length cb, .int .i64 f, .int .i64 b, .int .u64 k]⟩] w0 fun v w' => v = .bool true ∧ Ext No w0 w' := by
  simp only [Pl.I64] at hu1 hu2
  have hbl := hbk.le
  have hbm := hbk.max
  simp only at hbl hbm
  refine C_of Try.func5 rfl rfl rfl fun κ hret hnorm => ?_
  have hm := Mem.start w0
  refine HW_seq rfl ?_
  refine HW_text (.act 0 (.pure 1 .done)) (by kernel_rfl) ?_
  refine a_box rfl rfl rfl rfl hm trivial fun m1 w hg_m1 hm hh => ?_
  refine rw_p rfl rfl (y_assign rfl) ?_
  refine rw_done ?_
  refine gn_sq ?_
  refine HW_seq rfl ?_
  by_cases hmk : Pl.right u1 u2 bs.length = true ∧ u1 * u2 ≤ 2000
  ·
    obtain ⟨hrt, h2k⟩ := hmk
    obtain ⟨h1, h2, h3, h4⟩ := Pl.right_of hrt
    obtain ⟨a, rfl⟩ : ∃ a : Nat, u1 = a := ⟨u1.toNat, by omega⟩
    obtain ⟨c, rfl⟩ : ∃ c : Nat, u2 = c := ⟨u2.toNat, by omega⟩
    have hac : (a : Int) * (c : Int) = ((c * a : Nat) : Int) := by rw [Nat.mul_comm]; norm_cast
    rw [hac] at h2k h3 h4
    have hca : 1 ≤ c * a := Nat.mul_pos (by omega) (by omega)
    have ha9 : a ≤ c * a := Nat.le_mul_of_pos_left _ (by omega)
    have hc9 : c ≤ c * a := Nat.le_mul_of_pos_right _ (by omega)
    clear h1 h2
    refine HW_text (.pure 0 (.act 1 (.pure 2 (.pure 3 (.pure 4 (.pure 5 (.pure 6 .done))))))) (by kernel_rfl) ?_
    refine rw_p rfl rfl (y_loadA (s := 6) (vs := [_, _, _, _, _, _]) rfl ag29 (hm.nt 0 rfl) rfl) ?_
    refine a_call rfl rfl rfl go11 (dv_ok a c pb cb bs f b k _ (hbk.ext hm.to) hrt (by omega)) fun v w hR => ?_
    obtain ⟨m, mr, Zw, Zr, rfl, hz, hy, hmc⟩ := hR
    refine ⟨trivial, ?_⟩
    replace hm := hm.callTZ hmc
    refine rw_p rfl rfl (y_move rfl) ?_
    refine rw_p rfl rfl (y_extract rfl rfl) ?_
    refine rw_p rfl rfl (y_extract rfl rfl) ?_
    refine rw_p rfl rfl (y_assign rfl) ?_
    refine rw_p rfl rfl (y_assign rfl) ?_
    refine rw_done ?_
    refine gn_sq ?_
    refine HW_seq rfl ?_
    refine HW_seq rfl ?_
    refine HW_text (.pure 0 (.pure 1 .done)) (by kernel_rfl) ?_
    refine rw_p rfl rfl (y_move rfl) ?_
    refine rw_p rfl rfl (y_pnil rfl rfl pb33) ?_
    refine rw_done ?_
    refine gn_sq ?_
    refine HW_condF rfl rfl rfl ?_
    refine HW_skip rfl ?_
    refine gn_sq ?_
    refine HW_seq rfl ?_
    by_cases hck : Pl.jcheck (Pl.nDv a c bs) f b = 0
    ·
      obtain ⟨F, N, rfl, hN, h0, h2⟩ := Pl.jcheck_ok hck
      replace hN : Pl.slot (a : Int) b = (N : Int) := hN
      replace h2 : F + 2 * N ≤ c := h2
      have hok0 : Pl.okDv (Pl.nDv a c bs) := hz.ok
      have hu := Pl.jfm_up (f := F) (N := N) hok0 rfl (show (-1 : Int) < 0 by decide) h2 (show 0 + c ≤ 1000000000 by omega) (Int.le_refl 0) (show (0 : Int) + (c : Int) ≤ 4611686018427387903 by omega)
      obtain ⟨⟨e9, E⟩, hE9⟩ : ∃ x : Int × Pl.Dv, Pl.jfm (Pl.nDv a c bs) F N = x := ⟨_, rfl⟩
      rw [hE9] at hu
      obtain ⟨he9, hJ⟩ := hu
      simp only at he9 hJ
      subst he9
      have hNE : Pl.slot (E.sz : Int) b = (N : Int) := by rw [hJ.sz]; exact hN
      have h2E : F + 2 * N ≤ E.cnt := by rw [hJ.cnt]; exact h2
      refine HW_text (.pure 0 (.pure 1 (.pure 2 (.pure 3 (.pure 4 (.act 5 (.pure 6 .done))))))) (by kernel_rfl) ?_
      refine rw_p rfl rfl (y_move rfl) ?_
      refine rw_p rfl rfl (y_fieldAddr rfl fo29_3) ?_
      refine rw_p rfl rfl (y_load rfl sc3 (hm.nt 0 rfl) rfl) ?_
      refine rw_p rfl rfl (y_fieldAddr rfl fo29_4) ?_
      refine rw_p rfl rfl (y_load rfl sc3 (hm.nt 0 rfl) rfl) ?_
      refine a_call rfl rfl rfl go19 (j_format (Pl.nDv a c bs) m Zw _ (OwnZ.mid (A := [_]) hm.ownZ) hz F N b hb hN h0 h2 (show 0 + c ≤ 1000000000 by omega)) fun v w hR => ?_
      obtain ⟨rfl, Zw, hz, hmc⟩ := hR
      refine ⟨trivial, ?_⟩
      replace hm := Mem.callM (A := [_]) hm hmc
      rw [hE9] at hz ⊢
      simp only at hz ⊢
      refine rw_p rfl rfl (y_assign rfl) ?_
      refine rw_done ?_
      refine gn_sq ?_
      refine HW_seq rfl ?_
      refine HW_seq rfl ?_
      refine HW_text (.pure 0 (.pure 1 (.pure 2 (.pure 3 (.pure 4 (.act 5 (.pure 6 .done))))))) (by kernel_rfl) ?_
      refine rw_p rfl rfl (y_move rfl) ?_
      refine rw_p rfl rfl (y_fieldAddr rfl fo29_3) ?_
      refine rw_p rfl rfl (y_load rfl sc3 (hm.nt 0 rfl) rfl) ?_
      refine rw_p rfl rfl (y_fieldAddr rfl fo29_4) ?_
      refine rw_p rfl rfl (y_load rfl sc3 (hm.nt 0 rfl) rfl) ?_
      refine a_call rfl rfl rfl go12 (C.as (v := .int .i64 0) (r22_check (Pl.nDv a c bs) mr Zr _ (OwnZ.end (A := [_]) hm.ownZ) hy (F : Int) b hf hb) (by rw [hck])) fun v w hR => ?_
      obtain ⟨rfl, hE⟩ := hR
      refine ⟨trivial, ?_⟩
      replace hm := hm.ext hE
      refine rw_p rfl rfl (y_assign rfl) ?_
      refine rw_done ?_
      refine gn_sq ?_
      refine HW_seq rfl ?_
      refine HW_text (.pure 0 (.pure 1 .done)) (by kernel_rfl) ?_
      refine rw_p rfl rfl (y_move rfl) ?_
      refine rw_p rfl rfl (y_as (c := false) (y_ne rfl rfl) (by decide)) ?_
      refine rw_done ?_
      refine gn_sq ?_
      refine HW_condF rfl rfl rfl ?_
      refine HW_skip rfl ?_
      refine gn_sq ?_
      refine HW_seq rfl ?_
      refine HW_text (.pure 0 (.pure 1 (.pure 2 (.pure 3 (.pure 4 (.act 5 .done)))))) (by kernel_rfl) ?_
      refine rw_p rfl rfl (y_move rfl) ?_
      refine rw_p rfl rfl (y_fieldAddr rfl fo29_3) ?_
      refine rw_p rfl rfl (y_load rfl sc3 (hm.nt 0 rfl) rfl) ?_
      refine rw_p rfl rfl (y_fieldAddr rfl fo29_4) ?_
      refine rw_p rfl rfl (y_load rfl sc3 (hm.nt 0 rfl) rfl) ?_
      refine a_call rfl rfl rfl go20 (r22_format (Pl.nDv a c bs) mr Zr _ (OwnZ.end (A := [_]) hm.ownZ) hy F N b hb hN h0 h2 (show 0 + c ≤ 1000000000 by omega)) fun v w hR => ?_
      obtain ⟨rfl, Zr, hy, hmc⟩ := hR
      refine ⟨trivial, ?_⟩
      replace hm := Mem.callR (A := [_]) hm hmc
      rw [hE9] at hy
      simp only at hy
      refine rw_done ?_
      refine gn_sq ?_
      refine HW_seq rfl ?_
      refine HW_text (.pure 0 (.pure 1 (.pure 2 (.pure 3 (.pure 4 (.pure 5 (.pure 6 (.act 7 (.pure 8 (.pure 9 (.pure 10 (.pure 11 (.pure 12 .done))))))))))))) (by kernel_rfl) ?_
      refine rw_p rfl rfl (y_move rfl) ?_
      refine rw_p rfl rfl (y_fieldAddr rfl fo29_3) ?_
      refine rw_p rfl rfl (y_load rfl sc3 (hm.nt 0 rfl) rfl) ?_
      refine rw_p rfl rfl (y_fieldAddr rfl fo29_4) ?_
      refine rw_p rfl rfl (y_load rfl sc3 (hm.nt 0 rfl) rfl) ?_
      refine rw_p rfl rfl (y_fieldAddr rfl fo29_5) ?_
      refine rw_p rfl rfl (y_load rfl sc27 (hm.nt 0 rfl) rfl) ?_
      refine a_call rfl rfl rfl go13 (j_open E m Zw _ (OwnZ.mid (A := [_]) hm.ownZ) hz F N b hb hNE h0 h2E k hJ.dn) fun v w hR => ?_
      obtain ⟨j, Zj, rfl, hj, hmc⟩ := hR
      refine ⟨trivial, ?_⟩
      obtain ⟨p_x, c_x, g_x, b_x, rfl, ha_x⟩ := hj
      replace hm := hm.callN hmc
      have hjo : Pl.jopen E F N k = (⟨1, false, Pl.rc0⟩ : Pl.Jn) := by unfold Pl.jopen; rw [Pl.jfm_none hJ (by omega) h2]; rfl
      obtain ⟨S0, hS0⟩ : ∃ S, Pl.jopen E F N k = S := ⟨_, rfl⟩
      rw [hS0] at hm ha_x
      obtain rfl : S0 = (⟨1, false, Pl.rc0⟩ : Pl.Jn) := hS0.symm.trans hjo
      refine rw_p rfl rfl (y_move rfl) ?_
      refine rw_p rfl rfl (y_extract rfl rfl) ?_
      refine rw_p rfl rfl (y_extract rfl rfl) ?_
      refine rw_p rfl rfl (y_assign rfl) ?_
      refine rw_p rfl rfl (y_assign rfl) ?_
      refine rw_done ?_
      refine gn_sq ?_
      refine HW_seq rfl ?_
      refine HW_seq rfl ?_
      refine HW_draw (.pure 0 (.pure 1 (.pure 2 (.pure 3 (.pure 4 (.pure 5 (.pure 6 (.pure 7 (.pure 8 (.pure 9 (.pure 10 (.pure 11 (.pure 13 (.pure 14 (.pure 15 (.pure 16 (.act 12 (.cut (.act 17 (.pure 18 (.pure 19 .done))))))))))))))))))))) No mix (by kernel_rfl) hm fun w hw hm0 hh => ?_
      have hm := hm0
      obtain ⟨qB_, kB_, qC_, kC_, sC_, hPy, hd9, hp9, hw9⟩ := hy.row (OwnZ.end (A := [_, _, _]) hm0.ownZ)
      refine rw_p rfl rfl (y_move rfl) ?_
      refine rw_p rfl rfl (y_as (c := false) (y_ne rfl rfl) (by decide)) ?_
      refine rw_p rfl rfl (y_move rfl) ?_
      refine rw_p rfl rfl (y_move rfl) ?_
      refine rw_p rfl rfl (y_as (c := false) (y_ne rfl rfl) (by decide)) ?_
      refine rw_p rfl rfl (y_pickF rfl rfl) ?_
      refine rw_p rfl rfl (y_move rfl) ?_
      refine rw_p rfl rfl (y_move rfl) ?_
      refine rw_p rfl rfl (y_pnil rfl rfl pb37) ?_
      refine rw_p rfl rfl (y_pickF rfl rfl) ?_
      refine rw_p rfl rfl (y_move rfl) ?_
      refine rw_p rfl rfl (y_move rfl) ?_
      refine rw_p rfl rfl (y_move rfl) ?_
      refine rw_p rfl rfl (y_nil rfl) ?_
      refine rw_p rfl rfl (y_fieldAddr rfl fo59_2) ?_
      refine rw_p rfl rfl (y_load rfl sc26 (fun u hu => (Ext.same hu _ (Array.getElem?_eq_some_iff.1 hPy).1 id).trans hPy) rfl) ?_
      refine a_call rfl rfl rfl go22 (o_disk E m Zw _ (OwnZ.mid (A := [_, _, _]) hm.ownZ) hz) fun v w hR => ?_
      obtain ⟨p_s, cap_s, g_s, b_s, rfl, ha_s, hmc⟩ := hR
      refine ⟨hh.ext hmc.to, ?_⟩
      have hg_s : b_s.real = true → _ := fun hr => (hmc.fresh _ List.mem_cons_self hr).resolve_left id
      replace hh := hh.ext hmc.to
      replace hm := hm.callN hmc
      have hEl : E.dk.length ≤ 1048576 := by rw [hJ.ok.len]; exact hJ.ok.max
      refine a_cut ?_
      refine a_call rfl rfl rfl go21 (C.as (v := .bool true) (eq_b p_s qB_ cap_s kB_ E.dk E.dk _ (ha_s.rd hm 0 rfl) (hd9.rd hm (fun e he => by simp [he])) (by omega) (by omega)) (congrArg Value.bool (decide_eq_true rfl))) fun v w hR => ?_
      obtain ⟨rfl, hE⟩ := hR
      refine ⟨trivial, ?_⟩
      replace hm := hm.ext hE
      refine rw_p rfl rfl (y_not rfl) ?_
      refine rw_p rfl rfl (y_pickF rfl rfl) ?_
      refine rw_done ?_
      refine gn_sq ?_
      refine HW_condF rfl rfl rfl ?_
      refine HW_skip rfl ?_
      refine gn_sq ?_
      refine HW_seq rfl ?_
      refine HW_text (.pure 0 (.act 1 (.pure 2 (.pure 3 (.pure 4 (.act 5 (.act 6 (.pure 7 .done)))))))) (by kernel_rfl) ?_
      refine rw_p rfl rfl (y_move rfl) ?_
      refine a_call rfl rfl rfl go15 (j_last m F b k (⟨1, false, Pl.rc0⟩ : Pl.Jn) j _ _ ((hm.pick [1, 2] rfl)).ownZ ⟨p_x, c_x, g_x, b_x, rfl, ha_x⟩ (by decide)) fun v w hR => ?_
      obtain ⟨p_z, cap_z, g_z, b_z, rfl, ha_z, hmc⟩ := hR
      refine ⟨trivial, ?_⟩
      have hg_z : b_z.real = true → _ := fun hr => (hmc.fresh _ List.mem_cons_self hr).resolve_left id
      replace hm := hm.callN hmc
      refine rw_p rfl rfl (y_move rfl) ?_
      refine rw_p rfl rfl (y_extract rfl rfl) ?_
      refine rw_p rfl rfl (y_extract rfl rfl) ?_
      refine a_alloc rfl rfl z43 hm trivial fun m2 w hg_m2 hm hh => ?_
      refine a_store rfl rfl rfl rfl sz43 rfl hm 0 rfl rfl fun w hm => ?_
      refine rw_p rfl rfl (y_assign rfl) ?_
      refine rw_done ?_
      refine gn_sq ?_
      refine HW_seq rfl ?_
      refine HW_text (.act 0 (.pure 1 (.pure 2 (.pure 3 (.pure 4 (.pure 5 (.pure 6 (.act 7 (.pure 8 (.pure 9 (.pure 10 (.pure 11 (.act 12 (.pure 13 (.pure 14 (.act 15 (.pure 16 (.pure 17 (.pure 18 (.pure 19 (.pure 20 (.act 21 (.pure 22 (.pure 23 (.pure 24 (.pure 25 .done)))))))))))))))))))))))))) (by kernel_rfl) ?_
      refine a_call rfl rfl rfl go9 (law_alive _) fun v w hR => ?_
      obtain ⟨rfl, hE⟩ := hR
      refine ⟨trivial, ?_⟩
      replace hm := hm.ext hE
      refine rw_p rfl rfl (y_move rfl) ?_
      refine rw_p rfl rfl (y_move rfl) ?_
      refine rw_p rfl rfl (y_not rfl) ?_
      refine rw_p rfl rfl (y_pickT rfl rfl) ?_
      refine rw_p rfl rfl (y_move rfl) ?_
      refine rw_p rfl rfl (y_move rfl) ?_
      refine a_call rfl rfl rfl go17 (j_next m F b _ (⟨1, false, Pl.rc0⟩ : Pl.Jn) j k p_x c_x (hm.get (k := 3) rfl)) fun v w hR => ?_
      obtain ⟨rfl, hE⟩ := hR
      refine ⟨trivial, ?_⟩
      replace hm := hm.ext hE
      refine rw_p rfl rfl (y_as (c := true) (y_eq rfl rfl) (by decide)) ?_
      refine rw_p rfl rfl (y_pickT rfl rfl) ?_
      refine rw_p rfl rfl (y_move rfl) ?_
      refine rw_p rfl rfl (y_move rfl) ?_
      refine a_call rfl rfl rfl go16 (o_stats E m Zw _ (OwnZ.mid (A := [_, _, _, _, _, _]) hm.ownZ) hz) fun v w hR => ?_
      obtain ⟨rfl, hE⟩ := hR
      refine ⟨trivial, ?_⟩
      replace hm := hm.ext hE
      refine rw_p rfl rfl (y_fieldV rfl fv47_0 rfl) ?_
      refine rw_p rfl rfl (y_move rfl) ?_
      refine a_call rfl rfl rfl go18 (j_region E m Zw _ (OwnZ.mid (A := [_, _, _, _, _, _]) hm.ownZ) hz F N b hb hNE h0 h2E (⟨1, false, Pl.rc0⟩ : Pl.Jn) j k p_x c_x (hm.get (k := 3) rfl)) fun v w hR => ?_
      obtain ⟨rfl, hE⟩ := hR
      refine ⟨trivial, ?_⟩
      replace hm := hm.ext hE
      refine rw_p rfl rfl (y_fieldV rfl fv51_1 rfl) ?_
      refine rw_p rfl rfl (y_as (c := true) (y_eq rfl rfl) (decide_eq_true (hJ.sW.trans (Int.zero_add _)))) ?_
      refine rw_p rfl rfl (y_pickT rfl rfl) ?_
      refine rw_p rfl rfl (y_move rfl) ?_
      refine rw_p rfl rfl (y_move rfl) ?_
      refine a_call rfl rfl rfl go16 (o_stats E m Zw _ (OwnZ.mid (A := [_, _, _, _, _, _]) hm.ownZ) hz) fun v w hR => ?_
      obtain ⟨rfl, hE⟩ := hR
      refine ⟨trivial, ?_⟩
      replace hm := hm.ext hE
      refine rw_p rfl rfl (y_fieldV rfl fv47_1 rfl) ?_
      refine rw_p rfl rfl (y_as (c := true) (y_eq rfl rfl) (decide_eq_true hJ.sF)) ?_
      refine rw_p rfl rfl (y_pickT rfl rfl) ?_
      refine rw_p rfl rfl (y_assign rfl) ?_
      refine rw_done ?_
      refine gn_sq ?_
      refine HW_ret rfl ?_
      refine toR (fin hret rfl (.tmp rfl .nil) .one ?_)
      exact ⟨rfl, hm.to⟩
    ·
      refine HW_text (.pure 0 (.pure 1 (.pure 2 (.pure 3 (.pure 4 (.act 5 (.pure 6 .done))))))) (by kernel_rfl) ?_
      refine rw_p rfl rfl (y_move rfl) ?_
      refine rw_p rfl rfl (y_fieldAddr rfl fo29_3) ?_
      refine rw_p rfl rfl (y_load rfl sc3 (hm.nt 0 rfl) rfl) ?_
      refine rw_p rfl rfl (y_fieldAddr rfl fo29_4) ?_
      refine rw_p rfl rfl (y_load rfl sc3 (hm.nt 0 rfl) rfl) ?_
      refine a_call rfl rfl rfl go19 (j_formatE (Pl.nDv a c bs) m Zw _ (OwnZ.mid (A := [_]) hm.ownZ) hz f b hf hb hck) fun v w hR => ?_
      obtain ⟨rfl, hE⟩ := hR
      refine ⟨trivial, ?_⟩
      replace hm := hm.ext hE
      refine rw_p rfl rfl (y_assign rfl) ?_
      refine rw_done ?_
      refine gn_sq ?_
      refine HW_seq rfl ?_
      refine HW_seq rfl ?_
      refine HW_text (.pure 0 (.pure 1 (.pure 2 (.pure 3 (.pure 4 (.act 5 (.pure 6 .done))))))) (by kernel_rfl) ?_
      refine rw_p rfl rfl (y_move rfl) ?_
      refine rw_p rfl rfl (y_fieldAddr rfl fo29_3) ?_
      refine rw_p rfl rfl (y_load rfl sc3 (hm.nt 0 rfl) rfl) ?_
      refine rw_p rfl rfl (y_fieldAddr rfl fo29_4) ?_
      refine rw_p rfl rfl (y_load rfl sc3 (hm.nt 0 rfl) rfl) ?_
      refine a_call rfl rfl rfl go12 (r22_check (Pl.nDv a c bs) mr Zr _ (OwnZ.end (A := [_]) hm.ownZ) hy f b hf hb) fun v w hR => ?_
      obtain ⟨rfl, hE⟩ := hR
      refine ⟨trivial, ?_⟩
      replace hm := hm.ext hE
      refine rw_p rfl rfl (y_assign rfl) ?_
      refine rw_done ?_
      refine gn_sq ?_
      refine HW_seq rfl ?_
      refine HW_text (.pure 0 (.pure 1 .done)) (by kernel_rfl) ?_
      refine rw_p rfl rfl (y_move rfl) ?_
      refine rw_p rfl rfl (y_as (c := true) (y_ne rfl rfl) (decide_eq_true hck)) ?_
      refine rw_done ?_
      refine gn_sq ?_
      refine HW_condT rfl rfl rfl ?_
      refine HW_seq rfl ?_
      refine HW_text (.act 0 (.pure 1 (.pure 2 (.pure 3 (.pure 4 (.pure 5 (.pure 6 (.pure 7 (.act 8 (.pure 9 (.pure 10 (.pure 11 (.pure 12 (.pure 13 (.pure 14 (.pure 15 (.pure 16 (.act 17 (.pure 18 (.pure 19 (.pure 20 .done))))))))))))))))))))) (by kernel_rfl) ?_
      refine a_call rfl rfl rfl go9 (law_alive _) fun v w hR => ?_
      obtain ⟨rfl, hE⟩ := hR
      refine ⟨trivial, ?_⟩
      replace hm := hm.ext hE
      refine rw_p rfl rfl (y_move rfl) ?_
      refine rw_p rfl rfl (y_move rfl) ?_
      refine rw_p rfl rfl (y_move rfl) ?_
      refine rw_p rfl rfl (y_as (c := true) (y_eq rfl rfl) (by simp)) ?_
      refine rw_p rfl rfl (y_pickT rfl rfl) ?_
      refine rw_p rfl rfl (y_move rfl) ?_
      refine rw_p rfl rfl (y_move rfl) ?_
      refine a_call rfl rfl rfl go16 (o_stats (Pl.nDv a c bs) m Zw _ (OwnZ.mid (A := [_]) hm.ownZ) hz) fun v w hR => ?_
      obtain ⟨rfl, hE⟩ := hR
      refine ⟨trivial, ?_⟩
      replace hm := hm.ext hE
      refine rw_p rfl rfl (y_build (cs := [_, _, _, _, _]) z47 ft47 rfl rfl rfl rfl rfl) ?_
      refine rw_p rfl rfl (y_as (c := true) (y_eqF rfl rfl fl47 rfl rfl) (by rfl)) ?_
      refine rw_p rfl rfl (y_pickT rfl rfl) ?_
      refine rw_p rfl rfl (y_move rfl) ?_
      refine rw_p rfl rfl (y_fieldAddr rfl fo29_3) ?_
      refine rw_p rfl rfl (y_load rfl sc3 (hm.nt 0 rfl) rfl) ?_
      refine rw_p rfl rfl (y_fieldAddr rfl fo29_4) ?_
      refine rw_p rfl rfl (y_load rfl sc3 (hm.nt 0 rfl) rfl) ?_
      refine a_call rfl rfl rfl go19 (j_formatN f b hb _) fun v w hR => ?_
      obtain ⟨rfl, hE⟩ := hR
      refine ⟨trivial, ?_⟩
      replace hm := hm.ext hE
      refine rw_p rfl rfl (y_as (c := true) (y_eq rfl rfl) (by decide)) ?_
      refine rw_p rfl rfl (y_pickT rfl rfl) ?_
      refine rw_p rfl rfl (y_assign rfl) ?_
      refine rw_done ?_
      refine gn_sq ?_
      refine HW_ret rfl ?_
      refine gr_sq ?_
      refine toR (fin hret rfl (.tmp rfl .nil) .one ?_)
      exact ⟨rfl, hm.to⟩
  ·
    refine HW_text (.pure 0 (.act 1 (.pure 2 (.pure 3 (.pure 4 (.pure 5 (.pure 6 .done))))))) (by kernel_rfl) ?_
    refine rw_p rfl rfl (y_loadA (s := 6) (vs := [_, _, _, _, _, _]) rfl ag29 (hm.nt 0 rfl) rfl) ?_
    refine a_call rfl rfl rfl go11 (dv_bad u1 u2 pb cb bs f b k _ (hbk.ext hm.to) hu1 hu2 hmk) fun v w hR => ?_
    obtain ⟨rfl, hE⟩ := hR
    refine ⟨trivial, ?_⟩
    replace hm := hm.ext hE
    refine rw_p rfl rfl (y_move rfl) ?_
    refine rw_p rfl rfl (y_extract rfl rfl) ?_
    refine rw_p rfl rfl (y_extract rfl rfl) ?_
    refine rw_p rfl rfl (y_assign rfl) ?_
    refine rw_p rfl rfl (y_assign rfl) ?_
    refine rw_done ?_
    refine gn_sq ?_
    refine HW_seq rfl ?_
    refine HW_seq rfl ?_
    refine HW_text (.pure 0 (.pure 1 .done)) (by kernel_rfl) ?_
    refine rw_p rfl rfl (y_move rfl) ?_
    refine rw_p rfl rfl (y_pnil rfl rfl pb33) ?_
    refine rw_done ?_
    refine gn_sq ?_
    refine HW_condT rfl rfl rfl ?_
    refine HW_seq rfl ?_
    refine HW_text (.act 0 (.pure 1 .done)) (by kernel_rfl) ?_
    refine a_call rfl rfl rfl go9 (law_alive _) fun v w hR => ?_
    obtain ⟨rfl, hE⟩ := hR
    refine ⟨trivial, ?_⟩
    replace hm := hm.ext hE
    refine rw_p rfl rfl (y_assign rfl) ?_
    refine rw_done ?_
    refine gn_sq ?_
    refine HW_ret rfl ?_
    refine gr_sq ?_
    refine toR (fin hret rfl (.tmp rfl .nil) .one ?_)
    exact ⟨rfl, hm.to⟩

end Go.Proofs.Ythailbggeafckaa
