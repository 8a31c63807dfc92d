/- Contracts of functions of the program: what each returns. Conditions: the hypotheses of each theorem. -/
import Derived.Test.YtlgkhajmjgepaaaRec
set_option linter.unusedVariables false
set_option linter.unusedSimpArgs false
namespace Go.Proofs.Ytlgkhajmjgepaaa
open Go Go.Cx

theorem go20 : isGo Try.prog 20 = true := by kernel_rfl
theorem go30 : isGo Try.prog 30 = true := by kernel_rfl
theorem go10 : isGo Try.prog 10 = true := by kernel_rfl
theorem go11 : isGo Try.prog 11 = true := by kernel_rfl
theorem go15 : isGo Try.prog 15 = true := by kernel_rfl

theorem rec_encT (r : Pl.Rc) (p : Option Addr) (cap : Nat) (w0 : World) (hx : Rd w0 p (r.bs.flatMap encB)) (hk : Pl.okRc r) (hl : r.bs.length ≤ 70368744177600) (hr : Pl.rright r = true) : C Try.prog 10 [.agg ⟨rcV r p r.bs.length cap⟩] w0 fun v w' => ∃ q c g b, v = .tuple ⟨[.slice q (Pl.renc r).length c, .int .i64 0]⟩ ∧ Acc 5 1 q (Pl.renc r).length c ((Pl.renc r).flatMap encB) g b ∧ Mem w0 w' No [(g, b)] :=
  (rec_encode r p cap w0 hx hk hl).mono fun v w' h => by
    simp only [hr, if_true] at h
    exact h

theorem rec_encF (r : Pl.Rc) (p : Option Addr) (cap : Nat) (w0 : World) (hx : Rd w0 p (r.bs.flatMap encB)) (hk : Pl.okRc r) (hl : r.bs.length ≤ 70368744177600) (hr : Pl.rright r = false) : C Try.prog 10 [.agg ⟨rcV r p r.bs.length cap⟩] w0 fun v w' => (∃ q c, v = .tuple ⟨[.slice q 0 c, .int .i64 2]⟩) ∧ Ext No w0 w' :=
  (rec_encode r p cap w0 hx hk hl).mono fun v w' h => by
    simp only [hr, Bool.false_eq_true, if_false] at h
    obtain ⟨q, c, g, b, h1, _, h3⟩ := h
    exact ⟨⟨q, c, h1⟩, h3.to⟩

theorem rec_decT (r : Pl.Rc) (p : Option Addr) (cap : Nat) (bs : List UInt8) (w0 : World) (hx : Rd w0 p (bs.flatMap encB)) (hle : bs.length ≤ cap) (hsp : cap ≠ 0 → ∀ ad, p = some ad → ad.spot = none) (hl : bs.length ≤ 70368744177664) (hr : Pl.rdec bs = some r) : C Try.prog 11 [.slice p bs.length cap] w0 fun v w' => ∃ (pa : Option Addr) (ca g : Nat) (b : Blk) (al : List UInt8), v = .tuple ⟨[.agg ⟨rcV r (slp pa ca 40 1) r.bs.length (ca - 40)⟩, .int .i64 0]⟩ ∧ Acc 5 1 pa al.length ca (al.flatMap encB) g b ∧ al.drop 40 = r.bs ∧ Mem w0 w' No [(g, b)] :=
  (rec_decode p cap bs w0 hx hle hsp hl).mono fun v w' h => by
    simp only [hr, Option.getD_some, Option.isSome_some, if_true] at h
    exact h

theorem rec_decF (p : Option Addr) (cap : Nat) (bs : List UInt8) (w0 : World) (hx : Rd w0 p (bs.flatMap encB)) (hle : bs.length ≤ cap) (hsp : cap ≠ 0 → ∀ ad, p = some ad → ad.spot = none) (hl : bs.length ≤ 70368744177664) (hr : Pl.rdec bs = none) : C Try.prog 11 [.slice p bs.length cap] w0 fun v w' => (∃ q c, v = .tuple ⟨[.agg ⟨rcV Pl.rc0 q 0 c⟩, .int .i64 19]⟩) ∧ Ext No w0 w' :=
  (rec_decode p cap bs w0 hx hle hsp hl).mono fun v w' h => by
    simp only [hr, Option.getD_none, Option.isSome_none, Bool.false_eq_true, if_false] at h
    obtain ⟨q, c, g, b, al, h1, _, _, h3⟩ := h
    exact ⟨⟨_, _, h1⟩, h3.to⟩

theorem r21_right (r : Pl.Rc) (p : Option Addr) (cap : Nat) (w0 : World) (hk : Pl.okRc r) : C Try.prog 8 [.agg ⟨rcV r p r.bs.length cap⟩] w0 fun v w' => v = .bool (Pl.rright r) ∧ Ext No w0 w' := by
  refine C_of Try.func8 rfl rfl rfl fun κ hret hnorm => ?_
  have hm := Mem.start w0
  refine HW_seq rfl ?_
  refine HW_text (.act 0 (.pure 1 .done)) (by kernel_rfl) ?_
  refine a_box rfl rfl rfl rfl hm trivial fun m1 w hg_m1 hm hh => ?_
  refine rw_p rfl rfl (y_assign rfl) ?_
  refine rw_done ?_
  refine gn_sq ?_
  refine HW_seq rfl ?_
  refine HW_draw (.pure 0 (.pure 1 (.pure 2 (.pure 3 (.pure 4 (.pure 5 (.act 6 (.pure 7 (.pure 8 (.pure 9 (.pure 10 (.pure 11 (.pure 12 (.pure 13 (.pure 14 (.pure 15 (.pure 16 (.act 17 (.pure 18 (.pure 19 (.pure 20 (.pure 21 (.pure 22 (.pure 23 (.pure 24 (.pure 25 (.pure 26 .done))))))))))))))))))))))))))) No mix (by kernel_rfl) hm fun w hw hm0 hh => ?_
  have hm := hm0
  refine rw_p rfl rfl (y_fieldAddr rfl fo25_2) ?_
  refine rw_p rfl rfl (y_load rfl sc3 (hm0.nd 0 rfl id) rfl) ?_
  refine rw_p rfl rfl (y_ge rfl rfl) ?_
  refine rw_p rfl rfl (y_move rfl) ?_
  refine rw_g rfl rfl rfl (fun hc => (y_fieldAddr rfl fo25_2)) ?_
  refine rw_g rfl rfl rfl (fun hc => (y_load (gx hc rfl) sc3 (hm0.nd 0 rfl id) rfl)) ?_
  refine a_callG rfl rfl rfl (fun hc => rfl) go20 (fun hc => (r1_max _)) hh fun w hE hh => ?_
  replace hm := hm.ext hE
  refine rw_g rfl rfl rfl (fun hc => (y_le (gx hc rfl) (gx hc rfl))) ?_
  refine rw_p rfl rfl (y_and rfl rfl rfl) ?_
  refine rw_p rfl rfl (y_move rfl) ?_
  refine rw_g rfl rfl rfl (fun hc => (y_fieldAddr rfl fo25_3)) ?_
  refine rw_g rfl rfl rfl (fun hc => (y_load (gx hc rfl) sc3 (hm0.nd 0 rfl id) rfl)) ?_
  refine rw_g rfl rfl rfl (fun hc => (y_ge (gx hc rfl) rfl)) ?_
  refine rw_p rfl rfl (y_and rfl rfl rfl) ?_
  refine rw_p rfl rfl (y_move rfl) ?_
  refine rw_g rfl rfl rfl (fun hc => (y_fieldAddr rfl fo25_3)) ?_
  refine rw_g rfl rfl rfl (fun hc => (y_load (gx hc rfl) sc3 (hm0.nd 0 rfl id) rfl)) ?_
  refine a_callG rfl rfl rfl (fun hc => rfl) go20 (fun hc => (r1_max _)) hh fun w hE hh => ?_
  replace hm := hm.ext hE
  refine rw_g rfl rfl rfl (fun hc => (y_le (gx hc rfl) (gx hc rfl))) ?_
  refine rw_p rfl rfl (y_and rfl rfl rfl) ?_
  refine rw_p rfl rfl (y_move rfl) ?_
  refine rw_g rfl rfl rfl (fun hc => (y_fieldAddr rfl fo25_4)) ?_
  refine rw_g rfl rfl rfl (fun hc => (y_load (gx hc rfl) sc23 (hm0.nd 0 rfl id) rfl)) ?_
  refine rw_g rfl rfl rfl (fun hc => (y_len (gx hc rfl) rfl sl23)) ?_
  refine rw_g rfl rfl rfl (fun hc => (y_le (gx hc rfl) rfl)) ?_
  refine rw_p rfl rfl (y_and rfl rfl rfl) ?_
  refine rw_p rfl rfl (y_assign rfl) ?_
  refine rw_done ?_
  refine gn_sq ?_
  refine HW_ret rfl ?_
  refine toR (fin hret rfl (.tmp rfl .nil) .one ?_)
  exact ⟨congrArg Value.bool (by clear hret hnorm hm; unfold Pl.rright; rw [Bool.eq_iff_iff]; simp only [Bool.and_eq_true, decide_eq_true_eq]; omega), hm.to⟩

set_option maxHeartbeats 800000 in
theorem r21_encode (r : Pl.Rc) (p : Option Addr) (cap : Nat) (w0 : World) (hx : Rd w0 p (r.bs.flatMap encB)) (hk : Pl.okRc r) (hl : r.bs.length ≤ 70368744177600) (hr : Pl.rright r = true) : C Try.prog 13 [.agg ⟨rcV r p r.bs.length cap⟩] w0 fun v w' => ∃ q c g b, v = .slice q (Pl.renc r).length c ∧ Acc 5 1 q (Pl.renc r).length c ((Pl.renc r).flatMap encB) g b ∧ Mem w0 w' No [(g, b)] := by
  obtain ⟨k1, k2, k3, k4⟩ := id hk
  have hr9 := Pl.rright_iff.1 hr
  simp only [Pl.I64] at k3 k4
  have hbl := Pl.rbody_len r
  refine C_of Try.func13 rfl rfl rfl fun κ hret hnorm => ?_
  have hm := Mem.start w0
  refine HW_seq rfl ?_
  refine HW_text (.act 0 (.pure 1 .done)) (by kernel_rfl) ?_
  refine a_box rfl rfl rfl rfl hm trivial fun m1 w hg_m1 hm hh => ?_
  refine rw_p rfl rfl (y_assign rfl) ?_
  refine rw_done ?_
  refine gn_sq ?_
  refine HW_seq rfl ?_
  refine HW_text (.act 0 (.act 1 (.pure 2 .done))) (by kernel_rfl) ?_
  refine a_buildSlice (l := [_, _, _, _]) rfl rfl sl23 z5 rfl rfl rfl rfl rfl rfl rfl hm trivial fun m2 w hg_m2 hm hh => ?_
  refine a_mkd rfl rfl rfl cb23 hm 0 rfl fun w hm => ?_
  refine rw_p rfl rfl (y_assign rfl) ?_
  refine rw_done ?_
  refine gn_sq ?_
  refine HW_seq rfl ?_
  refine HW_text (.pure 0 (.pure 1 (.pure 2 (.act 3 (.pure 4 .done))))) (by kernel_rfl) ?_
  refine rw_p rfl rfl (y_move rfl) ?_
  refine rw_p rfl rfl (y_fieldAddr rfl fo25_0) ?_
  refine rw_p rfl rfl (y_load rfl sc22 (hm.nt 1 rfl) rfl) ?_
  refine a_call rfl rfl rfl go30 (r6_append _ 4 Pl.magic r.sq 8 _ (Rd.mkd (hm.get (k := 0) rfl)) (by decide) k1 (by decide)) fun v w hR => ?_
  obtain ⟨p_s0, n_s0, cap_s0, g_s0, b_s0, rfl, ha_s0, hmc⟩ := hR
  refine ⟨trivial, ?_⟩
  replace hm := hm.callN hmc
  obtain rfl := ha_s0.lenB
  refine rw_p rfl rfl (y_assign rfl) ?_
  refine rw_done ?_
  refine gn_sq ?_
  refine HW_seq rfl ?_
  refine HW_text (.pure 0 (.pure 1 (.pure 2 (.act 3 (.pure 4 .done))))) (by kernel_rfl) ?_
  refine rw_p rfl rfl (y_move rfl) ?_
  refine rw_p rfl rfl (y_fieldAddr rfl fo25_1) ?_
  refine rw_p rfl rfl (y_load rfl sc22 (hm.nt 2 rfl) rfl) ?_
  refine a_call rfl rfl rfl go30 (r6_append p_s0 cap_s0 (Pl.magic ++ Pl.be r.sq 8) r.id 8 _ (ha_s0.rd hm 0 rfl) (by simp only [List.length_append, Pl.be_len]; decide) (by omega) (by decide)) fun v w hR => ?_
  obtain ⟨p_s1, n_s1, cap_s1, g_s1, b_s1, rfl, ha_s1, hmc⟩ := hR
  refine ⟨trivial, ?_⟩
  replace hm := hm.callN hmc
  obtain rfl := ha_s1.lenB
  refine rw_p rfl rfl (y_assign rfl) ?_
  refine rw_done ?_
  refine gn_sq ?_
  refine HW_seq rfl ?_
  refine HW_text (.pure 0 (.pure 1 (.pure 2 (.pure 3 (.act 4 (.pure 5 .done)))))) (by kernel_rfl) ?_
  refine rw_p rfl rfl (y_move rfl) ?_
  refine rw_p rfl rfl (y_fieldAddr rfl fo25_2) ?_
  refine rw_p rfl rfl (y_load rfl sc3 (hm.nt 3 rfl) rfl) ?_
  refine rw_p rfl rfl (y_conv rfl is3 it22 (u64w (by omega) (by omega))) ?_
  refine a_call rfl rfl rfl go30 (r6_append p_s1 cap_s1 (Pl.magic ++ Pl.be r.sq 8 ++ Pl.be r.id 8) r.cu 8 _ (ha_s1.rd hm 0 rfl) (by simp only [List.length_append, Pl.be_len]; decide) (by omega) (by decide)) fun v w hR => ?_
  obtain ⟨p_s2, n_s2, cap_s2, g_s2, b_s2, rfl, ha_s2, hmc⟩ := hR
  refine ⟨trivial, ?_⟩
  replace hm := hm.callN hmc
  obtain rfl := ha_s2.lenB
  refine rw_p rfl rfl (y_assign rfl) ?_
  refine rw_done ?_
  refine gn_sq ?_
  refine HW_seq rfl ?_
  refine HW_text (.pure 0 (.pure 1 (.pure 2 (.pure 3 (.act 4 (.pure 5 .done)))))) (by kernel_rfl) ?_
  refine rw_p rfl rfl (y_move rfl) ?_
  refine rw_p rfl rfl (y_fieldAddr rfl fo25_3) ?_
  refine rw_p rfl rfl (y_load rfl sc3 (hm.nt 4 rfl) rfl) ?_
  refine rw_p rfl rfl (y_conv rfl is3 it22 (u64w (by omega) (by omega))) ?_
  refine a_call rfl rfl rfl go30 (r6_append p_s2 cap_s2 (Pl.magic ++ Pl.be r.sq 8 ++ Pl.be r.id 8 ++ Pl.be r.cu 8) r.of 8 _ (ha_s2.rd hm 0 rfl) (by simp only [List.length_append, Pl.be_len]; decide) (by omega) (by decide)) fun v w hR => ?_
  obtain ⟨p_s3, n_s3, cap_s3, g_s3, b_s3, rfl, ha_s3, hmc⟩ := hR
  refine ⟨trivial, ?_⟩
  replace hm := hm.callN hmc
  obtain rfl := ha_s3.lenB
  refine rw_p rfl rfl (y_assign rfl) ?_
  refine rw_done ?_
  refine gn_sq ?_
  refine HW_seq rfl ?_
  refine HW_text (.pure 0 (.pure 1 (.pure 2 (.pure 3 (.pure 4 (.act 5 (.pure 6 .done))))))) (by kernel_rfl) ?_
  refine rw_p rfl rfl (y_move rfl) ?_
  refine rw_p rfl rfl (y_fieldAddr rfl fo25_4) ?_
  refine rw_p rfl rfl (y_load rfl sc23 (hm.nt 5 rfl) rfl) ?_
  refine rw_p rfl rfl (y_len rfl rfl sl23) ?_
  refine rw_p rfl rfl (y_conv rfl is3 it22 (u64w (by omega) (by omega))) ?_
  refine a_call rfl rfl rfl go30 (r6_append p_s3 cap_s3 (Pl.magic ++ Pl.be r.sq 8 ++ Pl.be r.id 8 ++ Pl.be r.cu 8 ++ Pl.be r.of 8) (r.bs.length : Int) 4 _ (ha_s3.rd hm 0 rfl) (by simp only [List.length_append, Pl.be_len]; decide) (by omega) (by decide)) fun v w hR => ?_
  obtain ⟨p_s4, n_s4, cap_s4, g_s4, b_s4, rfl, ha_s4, hmc⟩ := hR
  refine ⟨trivial, ?_⟩
  replace hm := hm.callN hmc
  obtain rfl := ha_s4.lenB
  refine rw_p rfl rfl (y_assign rfl) ?_
  refine rw_done ?_
  refine gn_sq ?_
  refine HW_seq rfl ?_
  refine HW_text (.pure 0 (.pure 1 (.pure 2 (.act 3 (.act 4 (.pure 5 .done)))))) (by kernel_rfl) ?_
  refine rw_p rfl rfl (y_move rfl) ?_
  refine rw_p rfl rfl (y_fieldAddr rfl fo25_4) ?_
  refine rw_p rfl rfl (y_load rfl sc23 (hm.nt 6 rfl) rfl) ?_
  refine a_append rfl rfl rfl rfl rfl rfl sl23 sl23 z5 rfl (oneB r.bs) (hx.ext0 hm.to) (lenB r.bs) ha_s4 hm 0 rfl (by simp only [List.length_append, Pl.be_len]; have : Pl.magic.length = 4 := rfl; omega) (by simp only [List.length_append, Pl.be_len]; have : Pl.magic.length = 4 := rfl; omega) fun p_s4 cap_s4 g_s4 b_s4 w ha_s4 hm => ?_
  replace ha_s4 := ha_s4.to (show _ = (Pl.rbody r).flatMap encB by simp only [Pl.rbody, Pl.putB_flds, List.flatMap_append, List.append_assoc]; rfl)
  have hn9 := ha_s4.lenB
  refine a_call rfl rfl rfl go31 (C.eqv (r3_seal p_s4 cap_s4 (Pl.rbody r) _ (ha_s4.rd hm 0 rfl) (by omega)) (by rw [← hn9])) fun v w hR => ?_
  obtain ⟨p_z, cap_z, g_z, b_z, rfl, ha_z, hmc⟩ := hR
  refine ⟨trivial, ?_⟩
  have hg_z : b_z.real = true → _ := fun hr => (hmc.fresh _ List.mem_cons_self hr).resolve_left id
  replace hm := hm.callN hmc
  refine rw_p rfl rfl (y_assign rfl) ?_
  refine rw_done ?_
  refine gn_sq ?_
  refine HW_ret rfl ?_
  refine toR (fin hret rfl (.tmp rfl .nil) .one ?_)
  exact ⟨p_z, cap_z, g_z, b_z, rfl, ha_z, (hm.pick [0] rfl)⟩

set_option maxHeartbeats 800000 in
theorem law_alive (w0 : World) : C Try.prog 9 [] w0 fun v w' => v = .bool true ∧ Ext No w0 w' := by
  have hr0 : Pl.rright Pl.rc0 = true := by decide
  have hk0 : Pl.okRc Pl.rc0 := (by simp [Pl.okRc, Pl.rc0, Pl.I64])
  have hel : (Pl.renc Pl.rc0).length = 44 := by rw [Pl.renc_len]; rfl
  have hm4 : (Pl.renc Pl.rc0).take 4 = Pl.magic := by unfold Pl.renc Pl.sealed Pl.rbody; rw [List.append_assoc, List.append_assoc, List.take_append_of_le_length (by decide)]; rfl
  refine C_of Try.func9 rfl rfl rfl fun κ hret hnorm => ?_
  have hm := Mem.start w0
  refine HW_seq rfl ?_
  refine HW_text (.pure 0 .done) (by kernel_rfl) ?_
  refine rw_p rfl rfl (y_assign rfl) ?_
  refine rw_done ?_
  refine gn_sq ?_
  refine HW_seq rfl ?_
  refine HW_text (.pure 0 (.act 1 (.pure 2 (.pure 3 (.pure 4 (.pure 5 (.pure 6 .done))))))) (by kernel_rfl) ?_
  refine rw_p rfl rfl (y_build (cs := [_, _, _, _, _]) z31 ft31 rfl rfl rfl rfl rfl) ?_
  refine a_call rfl rfl rfl go10 (rec_encT Pl.rc0 none 0 _ rfl hk0 (by decide) hr0) fun v w hR => ?_
  obtain ⟨p_z, cap_z, g_z, b_z, rfl, ha_z, hmc⟩ := hR
  refine ⟨trivial, ?_⟩
  have hg_z : b_z.real = true → _ := fun hr => (hmc.fresh _ List.mem_cons_self hr).resolve_left id
  replace hm := hm.callN hmc
  refine rw_p rfl rfl (y_move rfl) ?_
  refine rw_p rfl rfl (y_extract rfl rfl) ?_
  refine rw_p rfl rfl (y_extract rfl rfl) ?_
  refine rw_p rfl rfl (y_assign rfl) ?_
  refine rw_p rfl rfl (y_assign rfl) ?_
  refine rw_done ?_
  refine gn_sq ?_
  refine HW_seq rfl ?_
  refine HW_text (.act 0 (.pure 1 (.act 2 (.act 3 (.act 4 (.act 5 (.pure 6 (.pure 7 (.pure 8 (.act 9 (.act 10 (.pure 11 .done)))))))))))) (by kernel_rfl) ?_
  refine a_buildSlice (l := []) rfl rfl sl23 z5 rfl rfl rfl rfl rfl rfl rfl hm trivial fun m1 w hg_m1 hm hh => ?_
  refine rw_p rfl rfl (y_move rfl) ?_
  refine a_append rfl rfl rfl rfl rfl rfl sl23 sl23 z5 rfl (oneB _) (ha_z.rd hm 1 rfl) (lenB _) (Acc.row rfl) hm 0 rfl (by rw [hel]; decide) (by rw [hel]; decide) fun p_o cap_o g_o b_o w ha_o hm => ?_
  refine a_buildSlice (l := [_, _]) rfl rfl sl23 z5 rfl rfl rfl rfl rfl rfl rfl hm trivial fun m2 w hg_m2 hm hh => ?_
  refine a_append rfl rfl rfl rfl rfl rfl sl23 sl23 z5 rfl rfl (Rd.row0 (hm.get (k := 0) rfl)) rfl ha_o hm 1 rfl (by rw [hel]; decide) (by rw [hel]; decide) fun p_o cap_o g_o b_o w ha_o hm => ?_
  replace ha_o := ha_o.to (show _ = (Pl.renc Pl.rc0 ++ [9, 9]).flatMap encB by rw [List.flatMap_append]; rfl)
  have hn9 := ha_o.lenB
  have hn8 : (Pl.renc Pl.rc0 ++ [9, 9]).length = 46 := by rw [List.length_append, hel]; rfl
  refine a_call rfl rfl rfl go11 (C.eqv (rec_decT Pl.rc0 p_o cap_o (Pl.renc Pl.rc0 ++ [9, 9]) _ (ha_o.rd hm 1 rfl) (by rw [← hn9]; exact ha_o.le) ha_o.spot (by rw [hn8]; decide) (Pl.rdec_renc hk0 hr0 [9, 9])) (by rw [← hn9])) fun v w hR => ?_
  obtain ⟨p_t, cap_t, g_t, b_t, al_t, rfl, ha_t, hal_t, hmc⟩ := hR
  refine ⟨trivial, ?_⟩
  replace hm := hm.callN hmc
  refine rw_p rfl rfl (y_move rfl) ?_
  refine rw_p rfl rfl (y_extract rfl rfl) ?_
  refine rw_p rfl rfl (y_extract rfl rfl) ?_
  refine a_alloc rfl rfl z31 hm trivial fun m3 w hg_m3 hm hh => ?_
  refine a_store rfl rfl rfl rfl sz31 rfl hm 0 rfl rfl fun w hm => ?_
  refine rw_p rfl rfl (y_assign rfl) ?_
  refine rw_done ?_
  refine gn_sq ?_
  refine HW_seq rfl ?_
  refine HW_text (.pure 0 (.pure 1 (.pure 2 (.pure 3 (.pure 4 (.pure 5 (.pure 6 (.pure 7 (.pure 8 (.pure 9 (.pure 10 (.pure 11 (.pure 12 (.pure 13 (.pure 14 (.pure 15 (.pure 16 (.pure 17 (.pure 18 (.pure 19 (.act 20 (.pure 21 (.pure 22 (.act 23 (.pure 24 (.pure 25 (.pure 26 .done))))))))))))))))))))))))))) (by kernel_rfl) ?_
  refine rw_p rfl rfl (y_move rfl) ?_
  refine rw_p rfl rfl (y_len rfl rfl sl23) ?_
  refine rw_p rfl rfl (y_as (c := true) (y_eq rfl rfl) (by rw [hel]; decide)) ?_
  refine rw_p rfl rfl (y_move rfl) ?_
  refine rw_p rfl rfl (y_move rfl) ?_
  refine rw_p rfl rfl (y_as (c := true) (y_eq rfl rfl) (by decide +kernel)) ?_
  refine rw_p rfl rfl (y_pickT rfl rfl) ?_
  refine rw_p rfl rfl (y_move rfl) ?_
  refine rw_p rfl rfl (y_move rfl) ?_
  refine rw_p rfl rfl (y_v (y_slice (ln := 0) (hn := 4) rfl sl23 rfl ⟨_, rfl⟩ (by omega) (by have := ha_z.le; omega) (fun h => ha_z.spot (by omega))) (show _ = Value.slice (slp p_z cap_z 0 1) ((Pl.renc Pl.rc0).take 4).length cap_z by rw [hm4]; rfl)) ?_
  refine rw_p rfl rfl (y_cvs rfl bt23_9 (((ha_z.rd hm 4 rfl).takeS ha_z.le).nt) rfl) ?_
  refine rw_p rfl rfl (y_as (c := true) (y_seql rfl rfl) (by rw [hm4]; exact beq_self_eq_true (bstr Pl.magic).toList)) ?_
  refine rw_p rfl rfl (y_pickT rfl rfl) ?_
  refine rw_p rfl rfl (y_move rfl) ?_
  refine rw_p rfl rfl (y_move rfl) ?_
  refine rw_p rfl rfl (y_as (c := true) (y_eq rfl rfl) (by decide +kernel)) ?_
  refine rw_p rfl rfl (y_pickT rfl rfl) ?_
  refine rw_p rfl rfl (y_move rfl) ?_
  refine rw_p rfl rfl (y_loadA (s := 5) (vs := [_, _, _, _, _]) rfl ag31 (hm.nt 0 rfl) rfl) ?_
  refine rw_p rfl rfl (y_build (cs := [_, _, _, _, _]) z31 ft31 rfl rfl rfl rfl rfl) ?_
  refine a_call rfl rfl rfl go15 (C.as (v := .bool true) (rec_same Pl.rc0 Pl.rc0 (slp p_t cap_t 40 1) none (cap_t - 40) 0 _ (by have h9 := (ha_t.rd hm 1 rfl).dropB (l := 40) ha_t.le; rw [hal_t] at h9; exact h9) rfl) (congrArg Value.bool (by decide +kernel))) fun v w hR => ?_
  obtain ⟨rfl, hE⟩ := hR
  refine ⟨trivial, ?_⟩
  replace hm := hm.ext hE
  refine rw_p rfl rfl (y_pickT rfl rfl) ?_
  refine rw_p rfl rfl (y_move rfl) ?_
  refine a_call rfl rfl rfl go16 (rec_size 3 _ (by simp [Pl.I64])) fun v w hR => ?_
  obtain ⟨rfl, hE⟩ := hR
  refine ⟨trivial, ?_⟩
  replace hm := hm.ext hE
  refine rw_p rfl rfl (y_as (c := true) (y_eq rfl rfl) (by decide +kernel)) ?_
  refine rw_p rfl rfl (y_pickT rfl rfl) ?_
  refine rw_p rfl rfl (y_assign rfl) ?_
  refine rw_done ?_
  refine gn_sq ?_
  refine HW_ret rfl ?_
  refine toR (fin hret rfl (.tmp rfl .nil) .one ?_)
  exact ⟨rfl, hm.to⟩

end Go.Proofs.Ytlgkhajmjgepaaa
