/- Contracts of functions of the program: what each returns. Conditions: the hypotheses of each theorem. -/
import Derived.Test.YthokcfkcamcapaaLawD
set_option linter.unusedVariables false
set_option linter.unusedSimpArgs false
namespace Go.Proofs.Ythokcfkcamcapaa
open Go Go.Cx

theorem ag35 : aggS Try.prog 35 = some 3 := by kernel_rfl
theorem ag42 : aggS Try.prog 42 = some 4 := by kernel_rfl
theorem fl58 : flat Try.prog 58 [.num .i64, .num .i64, .num .i64, .num .i64, .num .i64] = true := by kernel_rfl
theorem go17 : isGo Try.prog 17 = true := by kernel_rfl
theorem go18 : isGo Try.prog 18 = true := by kernel_rfl
theorem go19 : isGo Try.prog 19 = true := by kernel_rfl
theorem go27 : isGo Try.prog 27 = true := by kernel_rfl
theorem sz42 : szO Try.prog 42 = some 4 := by kernel_rfl
theorem un4 : Try.prog.underlying 4 = some .bool := by kernel_rfl
theorem z42 : zer Try.prog 42 = some [.int .i64 0, .int .i64 0, .slice none 0 0, .int .u64 0] := by kernel_rfl

set_option maxHeartbeats 3200000 in
theorem law_plays (u1 u2 : Int) (pb : Option Addr) (cb : Nat) (bs : List UInt8) (q : Option Addr) (cq : Nat) (xs : List StV) (w0 : World) (hbk : SB.ok w0 ⟨pb, cb, bs⟩) (hu1 : Pl.I64 u1) (hu2 : Pl.I64 u2) (hq : Rd w0 q (xs.flatMap encSt)) (hxs : ∀ x, x ∈ xs → okSt w0 x) (hl : xs.length ≤ 9223372036854775807) : C Try.prog 6 [.agg ⟨[.int .i64 u1, .int .i64 u2, .slice pb bs.length cb]⟩, .slice q xs.length cq] w0 fun v w' => v = .bool true ∧ Ext No w0 w' := by
  simp only [Pl.I64] at hu1 hu2
  have hbl := hbk.le
  have hbm := hbk.max
  simp only at hbl hbm
  refine C_of Try.func6 rfl rfl rfl fun κ hret hnorm => ?_
  have hm := Mem.start w0
  refine HW_seq rfl ?_
  refine HW_text (.act 0 (.pure 1 .done)) (by kernel_rfl) ?_
  refine a_box rfl rfl rfl rfl hm trivial fun m1 w hg_m1 hm hh => ?_
  refine rw_p rfl rfl (y_assign rfl) ?_
  refine rw_done ?_
  refine gn_sq ?_
  refine HW_seq rfl ?_
  refine HW_seq rfl ?_
  refine HW_text (.pure 0 (.pure 1 (.act 2 (.pure 3 .done)))) (by kernel_rfl) ?_
  refine rw_p rfl rfl (y_loadA (s := 3) (vs := [_, _, _]) rfl ag35 (hm.nt 0 rfl) rfl) ?_
  refine rw_p rfl rfl (y_move rfl) ?_
  refine a_call rfl rfl rfl go17 (law_fits u1 u2 pb cb bs q xs.length cq _ (by omega)) fun v w hR => ?_
  obtain ⟨rfl, hE⟩ := hR
  refine ⟨trivial, ?_⟩
  replace hm := hm.ext hE
  refine rw_p rfl rfl (y_not rfl) ?_
  refine rw_done ?_
  refine gn_sq ?_
  refine HW_cond rfl rfl (fun hc0 => ?_) (fun hc0 => ?_)
  ·
    refine HW_seq rfl ?_
    refine HW_text (.act 0 (.pure 1 .done)) (by kernel_rfl) ?_
    refine a_call rfl rfl rfl go8 (law_alive _) fun v w hR => ?_
    obtain ⟨rfl, hE⟩ := hR
    refine ⟨trivial, ?_⟩
    replace hm := hm.ext hE
    refine rw_p rfl rfl (y_assign rfl) ?_
    refine rw_done ?_
    refine gn_sq ?_
    refine HW_ret rfl ?_
    refine gr_sq ?_
    refine toR (fin hret rfl (.tmp rfl .nil) .one ?_)
    exact ⟨rfl, hm.to⟩
  ·
    have hfit := hc0
    simp only [Bool.not_eq_false, Bool.not_eq_false', Bool.and_eq_true, decide_eq_true_eq] at hfit
    obtain ⟨⟨hrt, h500⟩, h60⟩ := hfit
    obtain ⟨h1, h2, h3, h4⟩ := Pl.right_of hrt
    obtain ⟨a, rfl⟩ : ∃ a : Nat, u1 = a := ⟨u1.toNat, by omega⟩
    obtain ⟨c, rfl⟩ : ∃ c : Nat, u2 = c := ⟨u2.toNat, by omega⟩
    have hac : (a : Int) * (c : Int) = ((c * a : Nat) : Int) := by rw [Nat.mul_comm]; norm_cast
    rw [hac] at h3 h4
    have hca : 1 ≤ c * a := Nat.mul_pos (by omega) (by omega)
    have ha9 : a ≤ c * a := Nat.le_mul_of_pos_left _ (by omega)
    have hc9 : c ≤ c * a := Nat.le_mul_of_pos_right _ (by omega)
    rw [hac] at h500
    refine HW_skip rfl ?_
    refine gn_sq ?_
    refine HW_via (ι := Nat × Nat × List (Nat × Blk) × List (Nat × Blk)) rfl (ks := [1, 2, 4]) (.cons rfl (.cons rfl (.cons rfl .nil))) (fun v => [(5, .pointer (some ⟨v.1, 0, none⟩)), (6, .pointer (some ⟨v.2.1, 0, none⟩))]) (fun v w => Mem w0 w No ((m1, .row 35 [.int .i64 (a : Int), .int .i64 (c : Int), .slice pb bs.length cb]) :: (v.2.2.1 ++ v.2.2.2)) ∧ DevZ 72 84 5 (Pl.nDv a c bs) v.1 v.2.2.1 ∧ RefZ 48 55 5 (Pl.nDv a c bs) v.2.1 v.2.2.2) ?_ (fun v w hM => ?_)
    ·
      refine HW_draw (.pure 0 (.pure 1 (.pure 2 (.pure 3 (.pure 4 (.pure 5 (.pure 8 (.pure 9 (.pure 10 (.pure 11 (.pure 12 (.pure 13 (.act 6 (.act 7 (.cut (.act 14 (.pure 15 (.pure 16 .done)))))))))))))))))) No mix (by kernel_rfl) hm fun w hw hm0 hh => ?_
      have hm := hm0
      refine rw_p rfl rfl (y_fieldAddr rfl fo35_0) ?_
      refine rw_p rfl rfl (y_load rfl sc3 (hm0.nd 0 rfl id) rfl) ?_
      refine rw_p rfl rfl (y_fieldAddr rfl fo35_1) ?_
      refine rw_p rfl rfl (y_load rfl sc3 (hm0.nd 0 rfl id) rfl) ?_
      refine rw_p rfl rfl (y_fieldAddr rfl fo35_2) ?_
      refine rw_p rfl rfl (y_load rfl sc24 (hm0.nd 0 rfl id) rfl) ?_
      refine rw_p rfl rfl (y_fieldAddr rfl fo35_0) ?_
      refine rw_p rfl rfl (y_load rfl sc3 (hm0.nd 0 rfl id) rfl) ?_
      refine rw_p rfl rfl (y_fieldAddr rfl fo35_1) ?_
      refine rw_p rfl rfl (y_load rfl sc3 (hm0.nd 0 rfl id) rfl) ?_
      refine rw_p rfl rfl (y_fieldAddr rfl fo35_2) ?_
      refine rw_p rfl rfl (y_load rfl sc24 (hm0.nd 0 rfl id) rfl) ?_
      refine a_buildSlice (l := [_]) rfl rfl sl22 z24 rfl rfl rfl rfl rfl rfl rfl hm hh fun m2 w hg_m2 hm hh => ?_
      refine a_call rfl rfl rfl go9 (o_newN a c _ 1 [⟨pb, cb, bs⟩] _ (Rd.row0 (hm.get (k := 0) rfl)) (fun s hs => by rw [List.mem_singleton.1 hs]; exact hbk.rd.ext0 hm.to) (by simp) (by simp; omega) bs (by simp) hrt) fun v w hR => ?_
      obtain ⟨m, Zw, rfl, hz, hmc⟩ := hR
      refine ⟨Hold.ext hh hmc.to, ?_⟩
      replace hm := hm.callTZ hmc
      replace hh := Hold.ext hh hmc.to
      refine a_cut ?_
      refine a_call rfl rfl rfl go18 (rf_new a c pb cb bs _ (hbk.rd.ext0 hm.to) (by omega) (by omega) (by omega) (by omega)) fun v w hR => ?_
      obtain ⟨mr, Zr, rfl, hy, hmc⟩ := hR
      refine ⟨trivial, ?_⟩
      replace hm := Mem.callT2 (A := [_, _]) hm hmc
      refine rw_p rfl rfl (y_assign rfl) ?_
      refine rw_p rfl rfl (y_assign rfl) ?_
      refine rw_done ?_
      exact gn_vi (m, mr, Zw, Zr) ⟨(hm.pickT [1] 2 rfl), hz, hy⟩ ⟨rfl, rfl, rfl, rfl, rfl, trivial⟩
    ·
      obtain ⟨m, mr, Zw, Zr⟩ := v
      obtain ⟨hm, hz, hy⟩ := hM
      simp only at hm hz hy ⊢
      refine HW_seq rfl ?_
      refine HW_seq rfl ?_
      refine HW_text (.pure 0 (.pure 1 .done)) (by kernel_rfl) ?_
      refine rw_p rfl rfl (y_move rfl) ?_
      refine rw_p rfl rfl (y_pnil rfl rfl pb25) ?_
      refine rw_done ?_
      refine gn_sq ?_
      refine HW_condF rfl rfl rfl ?_
      refine HW_skip rfl ?_
      refine gn_sq ?_
      refine HW_seq rfl ?_
      refine HW_seq rfl ?_
      refine HW_text (.pure 0 (.pure 1 (.pure 2 .done))) (by kernel_rfl) ?_
      refine rw_p rfl rfl (y_move rfl) ?_
      refine rw_p rfl rfl (y_len rfl rfl sl36) ?_
      refine rw_p rfl rfl (y_move rfl) ?_
      refine rw_done ?_
      refine gn_sq ?_
      refine HW_block rfl ?_
      refine HW_loopK (ι := Nat × Pl.Dv × List (Nat × Blk) × List (Nat × Blk)) rfl (ks := [2, 5, 6, 32, 33]) (.cons rfl (.cons rfl (.cons rfl (.cons rfl (.cons rfl .nil))))) (fun y => [(34, .int .i64 y.1)]) (fun y w => Mem w0 w No ((m1, .row 35 [.int .i64 (a : Int), .int .i64 (c : Int), .slice pb bs.length cb]) :: (y.2.2.1 ++ y.2.2.2)) ∧ DevZ 72 84 5 y.2.1 m y.2.2.1 ∧ RefZ 48 55 5 y.2.1 mr y.2.2.2 ∧ y.2.1.ca.length ≤ y.1 ∧ y.2.1.sz = a ∧ y.2.1.cnt = c ∧ y.1 ≤ xs.length) (fun y => xs.length - y.1) (0, (Pl.nDv a c bs), Zw, Zr) (⟨hm, hz, hy, Nat.zero_le _, rfl, rfl, Nat.zero_le _⟩) ⟨rfl, trivial⟩ (fun y w hM => ?_)
      obtain ⟨hm, hz, hy, hcl, hsz, hcn, hk⟩ := hM
      refine HW_seq rfl ?_
      refine HW_text (.pure 0 .done) (by kernel_rfl) ?_
      refine rw_p rfl rfl (y_lt rfl rfl) ?_
      refine rw_done ?_
      refine gn_sq ?_
      refine HW_seq rfl ?_
      refine HW_cond rfl rfl (fun hc2 => ?_) (fun hc2 => ?_)
      ·
        simp only [decide_eq_true_eq] at hc2
        obtain ⟨s, hi⟩ : ∃ y_, xs[y.1]? = some y_ := ⟨_, List.getElem?_eq_getElem (by omega)⟩
        obtain ⟨qb, qo, rfl⟩ := hq.atI encSt_len (by decide) hi
        have hs := hxs s (List.mem_of_getElem? hi)
        have hol := Pl.opDv_len y.2.1 s.k s.n s.s.bs s.kp
        refine HW_skip rfl ?_
        refine gn_sq ?_
        refine HW_seq rfl ?_
        refine HW_block rfl ?_
        refine HW_seq rfl ?_
        refine HW_text (.pure 0 (.pure 1 (.act 2 (.act 3 .done)))) (by kernel_rfl) ?_
        refine rw_p rfl rfl (y_index rfl rfl sl36 rfl (by omega) (by omega)) ?_
        refine rw_p rfl rfl (y_elA rfl ag42 (hq.ext0 hm.to).nt encSt_len hi) ?_
        refine a_alloc rfl rfl z42 hm trivial fun m22 w hg_m22 hm hh => ?_
        refine a_store rfl rfl rfl rfl sz42 rfl hm 0 rfl rfl fun w hm => ?_
        refine rw_done ?_
        refine gn_sq ?_
        refine HW_seq rfl ?_
        refine HW_draw (.pure 0 (.pure 1 (.pure 2 (.acto 3 (.pure 4 (.pure 5 (.pure 6 (.pure 8 (.pure 9 (.pure 10 (.pure 11 (.act 7 (.pure 12 (.pure 13 (.pure 14 (.pure 15 (.pure 17 (.pure 18 (.pure 19 (.pure 20 (.act 16 (.cut (.act 21 (.pure 22 (.pure 23 .done))))))))))))))))))))))))) No mix (by kernel_rfl) hm fun w hw hm0 hh => ?_
        have hm := hm0
        refine rw_p rfl rfl (y_move rfl) ?_
        refine rw_p rfl rfl (y_move rfl) ?_
        refine rw_p rfl rfl (y_loadA (s := 4) (vs := [_, _, _, _]) rfl ag42 (hm0.nd 0 rfl id) rfl) ?_
        refine a_acto ?_
        refine a_call rfl rfl rfl go19 (law_do y.2.1 m mr _ _ s.k s.n s.kp s.s.p s.s.cap s.s.bs _ (OwnZ.right (A := [_, _]) hm.ownZ) hz hy (hs.1.rd.ext0 hm.to) (Mem.apartZ (A := [_, _]) hm hs.1.rd) hs.1.le hs.2.2.1 hs.2.2.2 (by omega)) fun v w hR => ?_
        obtain ⟨rfl, Zw, Zr, hz, hy, hmc⟩ := hR
        refine ⟨trivial, ?_⟩
        replace hm := Mem.callZL (A := [_, _]) hm hmc
        refine a_opn No hm fun hm0 hh => ?_
        have hm := hm0
        have hl9 : (Pl.opDv y.2.1 s.k s.n s.s.bs s.kp).dk.length ≤ 1048576 := by rw [hz.ok.len]; exact hz.ok.max
        obtain ⟨qB_, kB_, qC_, kC_, cs, hPy, hd9, hp9, hw9⟩ := hy.row (OwnZ.end (A := [_, _]) hm.ownZ)
        refine rw_p rfl rfl (y_not rfl) ?_
        refine rw_p rfl rfl (y_move rfl) ?_
        refine rw_p rfl rfl (y_move rfl) ?_
        refine rw_p rfl rfl (y_move rfl) ?_
        refine rw_p rfl rfl (y_nil rfl) ?_
        refine rw_p rfl rfl (y_fieldAddr rfl fo48_6) ?_
        refine rw_p rfl rfl (y_load rfl sc4 (fun u hu => (Ext.same hu _ (Array.getElem?_eq_some_iff.1 hPy).1 id).trans hPy) rfl) ?_
        refine a_call rfl rfl rfl go20 (o_down (Pl.opDv y.2.1 s.k s.n s.s.bs s.kp) m _ _ (OwnZ.mid (A := [_, _]) hm.ownZ) hz) fun v w hR => ?_
        obtain ⟨rfl, hE⟩ := hR
        refine ⟨hh.ext hE, ?_⟩
        replace hm := hm.ext hE
        replace hh := hh.ext hE
        refine rw_p rfl rfl (y_as (c := false) (y_bneq rfl rfl un4) (by simp)) ?_
        refine rw_p rfl rfl (y_pickF rfl rfl) ?_
        refine rw_p rfl rfl (y_move rfl) ?_
        refine rw_p rfl rfl (y_move rfl) ?_
        refine rw_p rfl rfl (y_move rfl) ?_
        refine rw_p rfl rfl (y_nil rfl) ?_
        refine rw_p rfl rfl (y_fieldAddr rfl fo48_2) ?_
        refine rw_p rfl rfl (y_load rfl sc24 (fun u hu => (Ext.same hu _ (Array.getElem?_eq_some_iff.1 hPy).1 id).trans hPy) rfl) ?_
        refine a_call rfl rfl rfl go13 (o_disk (Pl.opDv y.2.1 s.k s.n s.s.bs s.kp) m _ _ (OwnZ.mid (A := [_, _]) hm.ownZ) hz) fun v w hR => ?_
        obtain ⟨p_s, cap_s, g_s, b_s, rfl, ha_s, hmc⟩ := hR
        refine ⟨hh.ext hmc.to, ?_⟩
        have hg_s : b_s.real = true → _ := fun hr => (hmc.fresh _ List.mem_cons_self hr).resolve_left id
        replace hh := hh.ext hmc.to
        replace hm := hm.callN hmc
        refine a_cut ?_
        refine a_call rfl rfl rfl go14 (C.as (v := .bool true) (eq_b p_s qB_ cap_s kB_ (Pl.opDv y.2.1 s.k s.n s.s.bs s.kp).dk (Pl.opDv y.2.1 s.k s.n s.s.bs s.kp).dk _ (ha_s.rd hm 0 rfl) (hd9.rd (hm.pickT [] 3 rfl) (fun e he => show e ∈ Zw ++ Zr from List.mem_append_right _ he)) (by omega) (by omega)) (congrArg Value.bool (decide_eq_true rfl))) fun v w hR => ?_
        obtain ⟨rfl, hE⟩ := hR
        refine ⟨trivial, ?_⟩
        replace hm := hm.ext hE
        refine rw_p rfl rfl (y_not rfl) ?_
        refine rw_p rfl rfl (y_pickF rfl rfl) ?_
        refine rw_done ?_
        refine gn_sq ?_
        refine HW_condF rfl rfl rfl ?_
        refine HW_skip rfl ?_
        refine gn_bl ?_
        refine gn_sq ?_
        refine HW_text (.pure 0 (.pure 1 .done)) (by kernel_rfl) ?_
        refine rw_p rfl rfl (y_add rfl rfl (i64w (by omega) (by omega))) ?_
        refine rw_p rfl rfl (y_move rfl) ?_
        refine rw_done ?_
        refine next (y.1 + 1, Pl.opDv y.2.1 s.k s.n s.s.bs s.kp, Zw, Zr) (by simp only; omega) ⟨(hm.pickT [2] 3 rfl), hz, hy, by simp only; omega, by simp only; omega, by simp only; omega, by simp only; omega⟩ ⟨nx y.1, rfl, rfl, rfl, rfl, rfl, trivial⟩
      ·
        clear hc0
        obtain ⟨k9, D, Zw, Zr⟩ := y
        simp only at hm hz hy hcl hsz hcn hk hc2 ⊢
        refine HW_exit rfl ?_
        refine gx_sq (gx_lp ?_)
        refine gx_here ?_
        refine gn_sq ?_
        refine HW_seq rfl ?_
        refine HW_draw (.pure 0 (.pure 1 (.pure 2 (.pure 3 (.pure 4 (.pure 5 (.pure 6 (.pure 7 (.pure 8 (.pure 9 (.pure 10 (.pure 11 (.pure 12 (.pure 13 (.pure 14 (.pure 15 (.pure 16 (.pure 17 (.pure 18 (.pure 19 (.pure 20 (.act 21 (.cut (.act 22 .done)))))))))))))))))))))))) No mix (by kernel_rfl) hm fun w hw hm0 hh => ?_
        have hm := hm0
        obtain ⟨qB_, kB_, qC_, kC_, cs, hPy, hd9, hp9, hw9⟩ := hy.row (OwnZ.end (A := [_]) hm.ownZ)
        refine rw_p rfl rfl (y_move rfl) ?_
        refine rw_p rfl rfl (y_nil rfl) ?_
        refine rw_p rfl rfl (y_fieldAddr rfl fo48_7) ?_
        refine rw_p rfl rfl (y_load rfl sc3 (fun u hu => (Ext.same hu _ (Array.getElem?_eq_some_iff.1 hPy).1 id).trans hPy) rfl) ?_
        refine rw_p rfl rfl (y_move rfl) ?_
        refine rw_p rfl rfl (y_nil rfl) ?_
        refine rw_p rfl rfl (y_fieldAddr rfl fo48_8) ?_
        refine rw_p rfl rfl (y_load rfl sc3 (fun u hu => (Ext.same hu _ (Array.getElem?_eq_some_iff.1 hPy).1 id).trans hPy) rfl) ?_
        refine rw_p rfl rfl (y_move rfl) ?_
        refine rw_p rfl rfl (y_nil rfl) ?_
        refine rw_p rfl rfl (y_fieldAddr rfl fo48_9) ?_
        refine rw_p rfl rfl (y_load rfl sc3 (fun u hu => (Ext.same hu _ (Array.getElem?_eq_some_iff.1 hPy).1 id).trans hPy) rfl) ?_
        refine rw_p rfl rfl (y_move rfl) ?_
        refine rw_p rfl rfl (y_nil rfl) ?_
        refine rw_p rfl rfl (y_fieldAddr rfl fo48_10) ?_
        refine rw_p rfl rfl (y_load rfl sc3 (fun u hu => (Ext.same hu _ (Array.getElem?_eq_some_iff.1 hPy).1 id).trans hPy) rfl) ?_
        refine rw_p rfl rfl (y_move rfl) ?_
        refine rw_p rfl rfl (y_nil rfl) ?_
        refine rw_p rfl rfl (y_fieldAddr rfl fo48_11) ?_
        refine rw_p rfl rfl (y_load rfl sc3 (fun u hu => (Ext.same hu _ (Array.getElem?_eq_some_iff.1 hPy).1 id).trans hPy) rfl) ?_
        refine rw_p rfl rfl (y_build (cs := [_, _, _, _, _]) z58 ft58 rfl rfl rfl rfl rfl) ?_
        refine a_alloc rfl rfl z58 hm hh fun m22 w hg_m22 hm hh => ?_
        refine a_cut ?_
        refine a_store rfl rfl rfl rfl sz58 rfl hm 0 rfl rfl fun w hm => ?_
        refine rw_done ?_
        refine gn_sq ?_
        refine HW_seq rfl ?_
        refine HW_draw (.act 0 (.pure 1 (.pure 2 (.pure 4 (.act 3 (.pure 5 (.pure 6 (.pure 7 (.pure 8 (.pure 10 (.pure 11 (.act 9 (.pure 12 (.pure 13 (.pure 14 (.pure 15 (.pure 17 (.pure 18 (.act 16 (.pure 19 (.pure 20 (.pure 21 .done)))))))))))))))))))))) No mix (by kernel_rfl) hm fun w hw hm0 hh => ?_
        have hm := hm0
        refine a_call rfl rfl rfl go8 (law_alive _) fun v w hR => ?_
        obtain ⟨rfl, hE⟩ := hR
        refine ⟨hh.ext hE, ?_⟩
        replace hm := hm.ext hE
        replace hh := hh.ext hE
        refine rw_p rfl rfl (y_move rfl) ?_
        refine rw_p rfl rfl (y_move rfl) ?_
        refine rw_p rfl rfl (y_loadA (s := 5) (vs := [_, _, _, _, _]) rfl ag58 (hm0.nd 0 rfl id) rfl) ?_
        refine a_call rfl rfl rfl go27 (o_stats D m _ _ (OwnZ.mid (A := [_, _]) hm.ownZ) hz) fun v w hR => ?_
        obtain ⟨rfl, hE⟩ := hR
        refine ⟨hh.ext hE, ?_⟩
        replace hm := hm.ext hE
        replace hh := hh.ext hE
        refine rw_p rfl rfl (y_as (c := true) (y_eqF rfl rfl fl58 rfl rfl) (by simp [eqL, lfEq])) ?_
        refine rw_p rfl rfl (y_pickT rfl rfl) ?_
        refine rw_p rfl rfl (y_move rfl) ?_
        refine rw_p rfl rfl (y_move rfl) ?_
        refine rw_p rfl rfl (y_fieldAddr rfl fo35_0) ?_
        refine rw_p rfl rfl (y_load rfl sc3 (hm0.nd 1 rfl id) rfl) ?_
        refine a_call rfl rfl rfl go11 (o_size D m _ _ (OwnZ.mid (A := [_, _]) hm.ownZ) hz) fun v w hR => ?_
        obtain ⟨rfl, hE⟩ := hR
        refine ⟨hh.ext hE, ?_⟩
        replace hm := hm.ext hE
        replace hh := hh.ext hE
        refine rw_p rfl rfl (y_as (c := true) (y_eq rfl rfl) (decide_eq_true (by rw [hsz]))) ?_
        refine rw_p rfl rfl (y_pickT rfl rfl) ?_
        refine rw_p rfl rfl (y_move rfl) ?_
        refine rw_p rfl rfl (y_move rfl) ?_
        refine rw_p rfl rfl (y_fieldAddr rfl fo35_1) ?_
        refine rw_p rfl rfl (y_load rfl sc3 (hm0.nd 1 rfl id) rfl) ?_
        refine a_call rfl rfl rfl go12 (o_sectors D m _ _ (OwnZ.mid (A := [_, _]) hm.ownZ) hz) fun v w hR => ?_
        obtain ⟨rfl, hE⟩ := hR
        refine ⟨hh.ext hE, ?_⟩
        replace hm := hm.ext hE
        replace hh := hh.ext hE
        refine rw_p rfl rfl (y_as (c := true) (y_eq rfl rfl) (decide_eq_true (by rw [hcn]))) ?_
        refine rw_p rfl rfl (y_pickT rfl rfl) ?_
        refine rw_p rfl rfl (y_assign rfl) ?_
        refine rw_done ?_
        refine gn_sq ?_
        refine HW_ret rfl ?_
        refine toR (fin hret rfl (.tmp rfl .nil) .one ?_)
        exact ⟨rfl, hm.to⟩

end Go.Proofs.Ythokcfkcamcapaa
