/- Contracts of functions of the program: what each returns. Conditions: the hypotheses of each theorem. -/
import Derived.Test.YthokcfkcamcapaaLawD
set_option linter.unusedVariables false
set_option linter.unusedSimpArgs false
namespace Go.Proofs.Ythokcfkcamcapaa
open Go Go.Cx

theorem ag35 : aggS Try.prog 35 = some 3 := by kernel_rfl
theorem ag42 : aggS Try.prog 42 = some 4 := by kernel_rfl
theorem go17 : isGo Try.prog 17 = true := by kernel_rfl
theorem go18 : isGo Try.prog 18 = true := by kernel_rfl
theorem go19 : isGo Try.prog 19 = true := by kernel_rfl
theorem sz42 : szO Try.prog 42 = some 4 := by kernel_rfl
theorem z42 : zer Try.prog 42 = some [.int .i64 0, .int .i64 0, .slice none 0 0, .int .u64 0] := by kernel_rfl

set_option maxHeartbeats 3200000 in
theorem law_flushes (u1 u2 : Int) (pb : Option Addr) (cb : Nat) (bs : List UInt8) (q : Option Addr) (cq : Nat) (xs : List StV) (w0 : World) (hbk : SB.ok w0 ⟨pb, cb, bs⟩) (hu1 : Pl.I64 u1) (hu2 : Pl.I64 u2) (hq : Rd w0 q (xs.flatMap encSt)) (hxs : ∀ x, x ∈ xs → okSt w0 x) (hl : xs.length ≤ 9223372036854775807) : C Try.prog 4 [.agg ⟨[.int .i64 u1, .int .i64 u2, .slice pb bs.length cb]⟩, .slice q xs.length cq] w0 fun v w' => v = .bool true ∧ Ext No w0 w' := by
  simp only [Pl.I64] at hu1 hu2
  have hbl := hbk.le
  have hbm := hbk.max
  simp only at hbl hbm
  refine C_of Try.func4 rfl rfl rfl fun κ hret hnorm => ?_
  have hm := Mem.start w0
  refine HW_seq rfl ?_
  refine HW_text (.act 0 (.pure 1 .done)) (by kernel_rfl) ?_
  refine a_box rfl rfl rfl rfl hm trivial fun m1 w hg_m1 hm hh => ?_
  refine rw_p rfl rfl (y_assign rfl) ?_
  refine rw_done ?_
  refine gn_sq ?_
  refine HW_seq rfl ?_
  refine HW_seq rfl ?_
  refine HW_text (.pure 0 (.pure 1 (.act 2 (.pure 3 .done)))) (by kernel_rfl) ?_
  refine rw_p rfl rfl (y_loadA (s := 3) (vs := [_, _, _]) rfl ag35 (hm.nt 0 rfl) rfl) ?_
  refine rw_p rfl rfl (y_move rfl) ?_
  refine a_call rfl rfl rfl go17 (law_fits u1 u2 pb cb bs q xs.length cq _ (by omega)) fun v w hR => ?_
  obtain ⟨rfl, hE⟩ := hR
  refine ⟨trivial, ?_⟩
  replace hm := hm.ext hE
  refine rw_p rfl rfl (y_not rfl) ?_
  refine rw_done ?_
  refine gn_sq ?_
  refine HW_cond rfl rfl (fun hc0 => ?_) (fun hc0 => ?_)
  ·
    refine HW_seq rfl ?_
    refine HW_text (.act 0 (.pure 1 .done)) (by kernel_rfl) ?_
    refine a_call rfl rfl rfl go8 (law_alive _) fun v w hR => ?_
    obtain ⟨rfl, hE⟩ := hR
    refine ⟨trivial, ?_⟩
    replace hm := hm.ext hE
    refine rw_p rfl rfl (y_assign rfl) ?_
    refine rw_done ?_
    refine gn_sq ?_
    refine HW_ret rfl ?_
    refine gr_sq ?_
    refine toR (fin hret rfl (.tmp rfl .nil) .one ?_)
    exact ⟨rfl, hm.to⟩
  ·
    have hfit := hc0
    simp only [Bool.not_eq_false, Bool.not_eq_false', Bool.and_eq_true, decide_eq_true_eq] at hfit
    obtain ⟨⟨hrt, h500⟩, h60⟩ := hfit
    obtain ⟨h1, h2, h3, h4⟩ := Pl.right_of hrt
    obtain ⟨a, rfl⟩ : ∃ a : Nat, u1 = a := ⟨u1.toNat, by omega⟩
    obtain ⟨c, rfl⟩ : ∃ c : Nat, u2 = c := ⟨u2.toNat, by omega⟩
    have hac : (a : Int) * (c : Int) = ((c * a : Nat) : Int) := by rw [Nat.mul_comm]; norm_cast
    rw [hac] at h3 h4
    have hca : 1 ≤ c * a := Nat.mul_pos (by omega) (by omega)
    have ha9 : a ≤ c * a := Nat.le_mul_of_pos_left _ (by omega)
    have hc9 : c ≤ c * a := Nat.le_mul_of_pos_right _ (by omega)
    rw [hac] at h500
    refine HW_skip rfl ?_
    refine gn_sq ?_
    refine HW_via (ι := Nat × Nat × List (Nat × Blk) × List (Nat × Blk)) rfl (ks := [1, 2, 4]) (.cons rfl (.cons rfl (.cons rfl .nil))) (fun v => [(5, .pointer (some ⟨v.1, 0, none⟩)), (6, .pointer (some ⟨v.2.1, 0, none⟩))]) (fun v w => Mem w0 w No ((m1, .row 35 [.int .i64 (a : Int), .int .i64 (c : Int), .slice pb bs.length cb]) :: (v.2.2.1 ++ v.2.2.2)) ∧ DevZ 72 84 5 (Pl.nDv a c bs) v.1 v.2.2.1 ∧ RefZ 48 55 5 (Pl.nDv a c bs) v.2.1 v.2.2.2) ?_ (fun v w hM => ?_)
    ·
      refine HW_draw (.pure 0 (.pure 1 (.pure 2 (.pure 3 (.pure 4 (.pure 5 (.pure 8 (.pure 9 (.pure 10 (.pure 11 (.pure 12 (.pure 13 (.act 6 (.act 7 (.cut (.act 14 (.pure 15 (.pure 16 .done)))))))))))))))))) No mix (by kernel_rfl) hm fun w hw hm0 hh => ?_
      have hm := hm0
      refine rw_p rfl rfl (y_fieldAddr rfl fo35_0) ?_
      refine rw_p rfl rfl (y_load rfl sc3 (hm0.nd 0 rfl id) rfl) ?_
      refine rw_p rfl rfl (y_fieldAddr rfl fo35_1) ?_
      refine rw_p rfl rfl (y_load rfl sc3 (hm0.nd 0 rfl id) rfl) ?_
      refine rw_p rfl rfl (y_fieldAddr rfl fo35_2) ?_
      refine rw_p rfl rfl (y_load rfl sc24 (hm0.nd 0 rfl id) rfl) ?_
      refine rw_p rfl rfl (y_fieldAddr rfl fo35_0) ?_
      refine rw_p rfl rfl (y_load rfl sc3 (hm0.nd 0 rfl id) rfl) ?_
      refine rw_p rfl rfl (y_fieldAddr rfl fo35_1) ?_
      refine rw_p rfl rfl (y_load rfl sc3 (hm0.nd 0 rfl id) rfl) ?_
      refine rw_p rfl rfl (y_fieldAddr rfl fo35_2) ?_
      refine rw_p rfl rfl (y_load rfl sc24 (hm0.nd 0 rfl id) rfl) ?_
      refine a_buildSlice (l := [_]) rfl rfl sl22 z24 rfl rfl rfl rfl rfl rfl rfl hm hh fun m2 w hg_m2 hm hh => ?_
      refine a_call rfl rfl rfl go9 (o_newN a c _ 1 [⟨pb, cb, bs⟩] _ (Rd.row0 (hm.get (k := 0) rfl)) (fun s hs => by rw [List.mem_singleton.1 hs]; exact hbk.rd.ext0 hm.to) (by simp) (by simp; omega) bs (by simp) hrt) fun v w hR => ?_
      obtain ⟨m, Zw, rfl, hz, hmc⟩ := hR
      refine ⟨Hold.ext hh hmc.to, ?_⟩
      replace hm := hm.callTZ hmc
      replace hh := Hold.ext hh hmc.to
      refine a_cut ?_
      refine a_call rfl rfl rfl go18 (rf_new a c pb cb bs _ (hbk.rd.ext0 hm.to) (by omega) (by omega) (by omega) (by omega)) fun v w hR => ?_
      obtain ⟨mr, Zr, rfl, hy, hmc⟩ := hR
      refine ⟨trivial, ?_⟩
      replace hm := Mem.callT2 (A := [_, _]) hm hmc
      refine rw_p rfl rfl (y_assign rfl) ?_
      refine rw_p rfl rfl (y_assign rfl) ?_
      refine rw_done ?_
      exact gn_vi (m, mr, Zw, Zr) ⟨(hm.pickT [1] 2 rfl), hz, hy⟩ ⟨rfl, rfl, rfl, rfl, rfl, trivial⟩
    ·
      obtain ⟨m, mr, Zw, Zr⟩ := v
      obtain ⟨hm, hz, hy⟩ := hM
      simp only at hm hz hy ⊢
      refine HW_seq rfl ?_
      refine HW_seq rfl ?_
      refine HW_text (.pure 0 (.pure 1 .done)) (by kernel_rfl) ?_
      refine rw_p rfl rfl (y_move rfl) ?_
      refine rw_p rfl rfl (y_pnil rfl rfl pb25) ?_
      refine rw_done ?_
      refine gn_sq ?_
      refine HW_condF rfl rfl rfl ?_
      refine HW_skip rfl ?_
      refine gn_sq ?_
      refine HW_seq rfl ?_
      refine HW_seq rfl ?_
      refine HW_text (.pure 0 (.pure 1 (.pure 2 .done))) (by kernel_rfl) ?_
      refine rw_p rfl rfl (y_move rfl) ?_
      refine rw_p rfl rfl (y_len rfl rfl sl36) ?_
      refine rw_p rfl rfl (y_move rfl) ?_
      refine rw_done ?_
      refine gn_sq ?_
      refine HW_block rfl ?_
      refine HW_loopK (ι := Nat × Pl.Dv × List (Nat × Blk) × List (Nat × Blk)) rfl (ks := [2, 4, 5, 6, 35, 36]) (.cons rfl (.cons rfl (.cons rfl (.cons rfl (.cons rfl (.cons rfl .nil)))))) (fun y => [(37, .int .i64 y.1)]) (fun y w => Mem w0 w No ((m1, .row 35 [.int .i64 (a : Int), .int .i64 (c : Int), .slice pb bs.length cb]) :: (y.2.2.1 ++ y.2.2.2)) ∧ DevZ 72 84 5 y.2.1 m y.2.2.1 ∧ RefZ 48 55 5 y.2.1 mr y.2.2.2 ∧ y.2.1.ca.length ≤ y.1 ∧ y.2.1.sz = a ∧ y.2.1.cnt = c ∧ y.1 ≤ xs.length) (fun y => xs.length - y.1) (0, (Pl.nDv a c bs), Zw, Zr) (⟨hm, hz, hy, Nat.zero_le _, rfl, rfl, Nat.zero_le _⟩) ⟨rfl, trivial⟩ (fun y w hM => ?_)
      obtain ⟨hm, hz, hy, hcl, hsz, hcn, hk⟩ := hM
      refine HW_seq rfl ?_
      refine HW_text (.pure 0 .done) (by kernel_rfl) ?_
      refine rw_p rfl rfl (y_lt rfl rfl) ?_
      refine rw_done ?_
      refine gn_sq ?_
      refine HW_seq rfl ?_
      refine HW_cond rfl rfl (fun hc2 => ?_) (fun hc2 => ?_)
      ·
        simp only [decide_eq_true_eq] at hc2
        obtain ⟨s, hi⟩ : ∃ y_, xs[y.1]? = some y_ := ⟨_, List.getElem?_eq_getElem (by omega)⟩
        obtain ⟨qb, qo, rfl⟩ := hq.atI encSt_len (by decide) hi
        have hs := hxs s (List.mem_of_getElem? hi)
        have hol := Pl.opDv_len y.2.1 s.k s.n s.s.bs s.kp
        refine HW_skip rfl ?_
        refine gn_sq ?_
        refine HW_seq rfl ?_
        refine HW_block rfl ?_
        refine HW_seq rfl ?_
        refine HW_text (.pure 0 (.pure 1 (.act 2 (.act 3 .done)))) (by kernel_rfl) ?_
        refine rw_p rfl rfl (y_index rfl rfl sl36 rfl (by omega) (by omega)) ?_
        refine rw_p rfl rfl (y_elA rfl ag42 (hq.ext0 hm.to).nt encSt_len hi) ?_
        refine a_alloc rfl rfl z42 hm trivial fun m22 w hg_m22 hm hh => ?_
        refine a_store rfl rfl rfl rfl sz42 rfl hm 0 rfl rfl fun w hm => ?_
        refine rw_done ?_
        refine gn_sq ?_
        refine HW_text (.pure 0 (.pure 1 (.pure 2 (.act 3 .done)))) (by kernel_rfl) ?_
        refine rw_p rfl rfl (y_move rfl) ?_
        refine rw_p rfl rfl (y_move rfl) ?_
        refine rw_p rfl rfl (y_loadA (s := 4) (vs := [_, _, _, _]) rfl ag42 (hm.nt 0 rfl) rfl) ?_
        refine a_call rfl rfl rfl go19 (law_do y.2.1 m mr _ _ s.k s.n s.kp s.s.p s.s.cap s.s.bs _ (OwnZ.right (A := [_, _]) hm.ownZ) hz hy (hs.1.rd.ext0 hm.to) (Mem.apartZ (A := [_, _]) hm hs.1.rd) hs.1.le hs.2.2.1 hs.2.2.2 (by omega)) fun v w hR => ?_
        obtain ⟨rfl, Zw, Zr, hz, hy, hmc⟩ := hR
        refine ⟨trivial, ?_⟩
        replace hm := Mem.callZL (A := [_, _]) hm hmc
        refine rw_done ?_
        refine gn_bl ?_
        refine gn_sq ?_
        refine HW_text (.pure 0 (.pure 1 .done)) (by kernel_rfl) ?_
        refine rw_p rfl rfl (y_add rfl rfl (i64w (by omega) (by omega))) ?_
        refine rw_p rfl rfl (y_move rfl) ?_
        refine rw_done ?_
        refine next (y.1 + 1, Pl.opDv y.2.1 s.k s.n s.s.bs s.kp, Zw, Zr) (by simp only; omega) ⟨(hm.pickT [1] 2 rfl), hz, hy, by simp only; omega, by simp only; omega, by simp only; omega, by simp only; omega⟩ ⟨nx y.1, rfl, rfl, rfl, rfl, rfl, rfl, trivial⟩
      ·
        clear hc0
        obtain ⟨k9, D, Zw, Zr⟩ := y
        simp only at hm hz hy hcl hsz hcn hk hc2 ⊢
        refine HW_exit rfl ?_
        refine gx_sq (gx_lp ?_)
        refine gx_here ?_
        refine gn_sq ?_
        refine HW_seq rfl ?_
        refine HW_seq rfl ?_
        refine HW_text (.pure 0 (.act 1 .done)) (by kernel_rfl) ?_
        refine rw_p rfl rfl (y_move rfl) ?_
        refine a_call rfl rfl rfl go20 (o_down D m _ _ (OwnZ.mid (A := [_]) hm.ownZ) hz) fun v w hR => ?_
        obtain ⟨rfl, hE⟩ := hR
        refine ⟨trivial, ?_⟩
        replace hm := hm.ext hE
        refine rw_done ?_
        refine gn_sq ?_
        refine HW_cond rfl rfl (fun hc3 => ?_) (fun hc3 => ?_)
        ·
          refine HW_seq rfl ?_
          refine HW_text (.act 0 (.pure 1 (.pure 2 (.act 3 (.pure 4 (.pure 5 (.pure 6 (.pure 7 (.pure 8 (.pure 9 (.pure 10 (.pure 11 (.pure 12 .done))))))))))))) (by kernel_rfl) ?_
          refine a_call rfl rfl rfl go8 (law_alive _) fun v w hR => ?_
          obtain ⟨rfl, hE⟩ := hR
          refine ⟨trivial, ?_⟩
          replace hm := hm.ext hE
          refine rw_p rfl rfl (y_move rfl) ?_
          refine rw_p rfl rfl (y_move rfl) ?_
          refine a_call rfl rfl rfl go21 (o_flush D m _ _ (OwnZ.mid (A := [_]) hm.ownZ) hz (by omega)) fun v w hR => ?_
          obtain ⟨rfl, Zw, hz, hmc⟩ := hR
          refine ⟨trivial, ?_⟩
          replace hm := Mem.callM (A := [_]) hm hmc
          refine rw_p rfl rfl (y_as (c := true) (y_eq rfl rfl) (decide_eq_true (by unfold Pl.fCode; rw [if_pos hc3]))) ?_
          obtain ⟨qB_, kB_, qC_, kC_, sC_, hPy, hd9, hp9, hw9⟩ := hy.row (OwnZ.end (A := [_]) hm.ownZ)
          refine rw_p rfl rfl (y_pickT rfl rfl) ?_
          refine rw_p rfl rfl (y_move rfl) ?_
          refine rw_p rfl rfl (y_move rfl) ?_
          refine rw_p rfl rfl (y_nil rfl) ?_
          refine rw_p rfl rfl (y_fieldAddr rfl fo48_6) ?_
          refine rw_p rfl rfl (y_v (y_load rfl sc4 (nowT hPy) rfl) (congrArg Value.bool hc3)) ?_
          refine rw_p rfl rfl (y_pickT rfl rfl) ?_
          refine rw_p rfl rfl (y_assign rfl) ?_
          refine rw_done ?_
          refine gn_sq ?_
          refine HW_ret rfl ?_
          refine gr_sq ?_
          refine toR (fin hret rfl (.tmp rfl .nil) .one ?_)
          exact ⟨rfl, hm.to⟩
        ·
          refine HW_skip rfl ?_
          refine gn_sq ?_
          refine HW_seq rfl ?_
          refine HW_text (.pure 0 (.act 1 (.pure 2 .done))) (by kernel_rfl) ?_
          refine rw_p rfl rfl (y_move rfl) ?_
          refine a_call rfl rfl rfl go22 (q_contents D mr _ _ (OwnZ.end (A := [_]) hm.ownZ) hy (by omega)) fun v w hR => ?_
          obtain ⟨p_d, cap_d, Nd, rfl, hh_d, hmc⟩ := hR
          refine ⟨trivial, ?_⟩
          replace hm := Mem.callT4 (A := [_]) hm hmc
          replace hh_d := hh_d.mono (C := Zr ++ Nd) (fun e he => by rcases List.mem_append.1 he with h | h <;> simp [h])
          have hl_d := hh_d.le
          simp only at hl_d
          have hlc : (Pl.contents D).length = D.dk.length := Pl.fold_len hz.ok.len hz.ok.ca
          have hol := hz.ok.len
          rw [hsz, hcn] at hol
          have hfs := Pl.fDv_sz D
          refine rw_p rfl rfl (y_assign rfl) ?_
          refine rw_done ?_
          refine gn_sq ?_
          refine HW_seq rfl ?_
          refine HW_seq rfl ?_
          refine HW_text (.pure 0 (.act 1 (.pure 2 (.pure 3 (.pure 4 (.act 5 (.pure 6 (.act 7 (.pure 8 (.pure 9 .done)))))))))) (by kernel_rfl) ?_
          refine rw_p rfl rfl (y_move rfl) ?_
          refine a_call rfl rfl rfl go21 (o_flush D m _ _ (OwnZ.mid (A := [_]) hm.ownZ) hz (by omega)) fun v w hR => ?_
          obtain ⟨rfl, Zw, hz, hmc⟩ := hR
          refine ⟨trivial, ?_⟩
          replace hm := Mem.callM (A := [_]) hm hmc
          refine rw_p rfl rfl (y_as (c := false) (y_ne rfl rfl) (decide_eq_false (by unfold Pl.fCode; rw [if_neg (by simp [hc3])]; exact fun h => h rfl))) ?_
          refine rw_p rfl rfl (y_move rfl) ?_
          refine rw_p rfl rfl (y_move rfl) ?_
          refine a_call rfl rfl rfl go13 (o_disk (Pl.fDv D) m _ _ (OwnZ.mid (A := [_]) hm.ownZ) hz) fun v w hR => ?_
          obtain ⟨p_s, cap_s, g_s, b_s, rfl, ha_s, hmc⟩ := hR
          refine ⟨trivial, ?_⟩
          have hg_s : b_s.real = true → _ := fun hr => (hmc.fresh _ List.mem_cons_self hr).resolve_left id
          replace hm := hm.callN hmc
          refine rw_p rfl rfl (y_move rfl) ?_
          refine a_call rfl rfl rfl go14 (C.as (v := .bool true) (eq_b p_s p_d cap_s cap_d (Pl.fDv D).dk (Pl.contents D) _ (ha_s.rd hm 0 rfl) (hh_d.rd hm (fun e he => by simp [he])) (by rw [Pl.fDv_dk hc3]; omega) (by omega)) (congrArg Value.bool (decide_eq_true (Pl.fDv_dk hc3)))) fun v w hR => ?_
          obtain ⟨rfl, hE⟩ := hR
          refine ⟨trivial, ?_⟩
          replace hm := hm.ext hE
          refine rw_p rfl rfl (y_not rfl) ?_
          refine rw_p rfl rfl (y_pickF rfl rfl) ?_
          refine rw_done ?_
          refine gn_sq ?_
          refine HW_condF rfl rfl rfl ?_
          refine HW_skip rfl ?_
          refine gn_sq ?_
          refine HW_seq rfl ?_
          refine HW_text (.pure 0 (.act 1 .done)) (by kernel_rfl) ?_
          refine rw_p rfl rfl (y_move rfl) ?_
          refine a_call rfl rfl rfl go23 (o_restart (Pl.fDv D) m _ _ (OwnZ.mid (A := [_, _]) hm.ownZ) hz (by rw [Pl.fDv_ca hc3]; decide)) fun v w hR => ?_
          obtain ⟨rfl, Zw, hz, hmc⟩ := hR
          refine ⟨trivial, ?_⟩
          replace hm := Mem.callM (A := [_, _]) hm hmc
          refine rw_done ?_
          refine gn_sq ?_
          refine HW_seq rfl ?_
          refine HW_seq rfl ?_
          refine HW_text (.pure 0 (.pure 1 (.pure 2 .done))) (by kernel_rfl) ?_
          refine rw_p rfl rfl (y_fieldAddr rfl fo35_1) ?_
          refine rw_p rfl rfl (y_load rfl sc3 (hm.nt 1 rfl) rfl) ?_
          refine rw_p rfl rfl (y_move rfl) ?_
          refine rw_done ?_
          refine gn_sq ?_
          refine HW_block rfl ?_
          refine HW_loopK (ι := Nat) rfl (ks := [2, 5, 9, 75]) (.cons rfl (.cons rfl (.cons rfl (.cons rfl .nil)))) (fun y => [(76, .int .i64 y)]) (fun y w => Mem w0 w No ((m1, .row 35 [.int .i64 (a : Int), .int .i64 (c : Int), .slice pb bs.length cb]) :: (Zw ++ (Zr ++ Nd))) ∧ y ≤ c) (fun y => c - y) 0 (⟨(hm.pickT [1] 2 rfl), Nat.zero_le _⟩) ⟨rfl, trivial⟩ (fun y w hM => ?_)
          obtain ⟨hm, hk9⟩ := hM
          refine HW_seq rfl ?_
          refine HW_text (.pure 0 .done) (by kernel_rfl) ?_
          refine rw_p rfl rfl (y_lt rfl rfl) ?_
          refine rw_done ?_
          refine gn_sq ?_
          refine HW_seq rfl ?_
          refine HW_cond rfl rfl (fun hc5 => ?_) (fun hc5 => ?_)
          ·
            simp only [decide_eq_true_eq] at hc5
            have hyc : y < c := by omega
            have hse : y * a + a ≤ c * a := Pl.sec_le hyc
            have hi1 : (y + 1) * a = y * a + a := by rw [Nat.add_mul, Nat.one_mul]
            have hcode : Pl.codeAt (Pl.sDv (Pl.fDv D)) (y : Int) = 0 := Pl.sDv_code _ (by omega)
            have hrd : Pl.rdS (Pl.sDv (Pl.fDv D)) (y : Int) = ((Pl.contents D).drop (y * a)).take a := by rw [Pl.sDv_rd, Pl.fDv_dk hc3, hfs.1, hsz, Int.toNat_natCast]
            have hrl : (((Pl.contents D).drop (y * a)).take a).length = a := by rw [List.length_take, List.length_drop]; omega
            refine HW_skip rfl ?_
            refine gn_sq ?_
            refine HW_seq rfl ?_
            refine HW_block rfl ?_
            refine HW_seq rfl ?_
            refine HW_text (.pure 0 (.pure 1 .done)) (by kernel_rfl) ?_
            refine rw_p rfl rfl (y_move rfl) ?_
            refine rw_p rfl rfl (y_assign rfl) ?_
            refine rw_done ?_
            refine gn_sq ?_
            refine HW_seq rfl ?_
            refine HW_text (.pure 0 (.pure 1 (.act 2 (.pure 3 (.pure 4 (.pure 5 (.pure 6 (.pure 7 .done)))))))) (by kernel_rfl) ?_
            refine rw_p rfl rfl (y_move rfl) ?_
            refine rw_p rfl rfl (y_move rfl) ?_
            refine a_call rfl rfl rfl go24 (o_read (Pl.sDv (Pl.fDv D)) m _ _ (OwnZ.mid (A := [_]) hm.ownZ) hz y) fun v w hR => ?_
            obtain ⟨p_s, cap_s, g_s, b_s, rfl, ha_s, hmc⟩ := hR
            refine ⟨trivial, ?_⟩
            have hg_s : b_s.real = true → _ := fun hr => (hmc.fresh _ List.mem_cons_self hr).resolve_left id
            replace hm := hm.callN hmc
            simp only [hcode, if_true, hrd] at ha_s ⊢
            refine rw_p rfl rfl (y_move rfl) ?_
            refine rw_p rfl rfl (y_extract rfl rfl) ?_
            refine rw_p rfl rfl (y_extract rfl rfl) ?_
            refine rw_p rfl rfl (y_assign rfl) ?_
            refine rw_p rfl rfl (y_assign rfl) ?_
            refine rw_done ?_
            refine gn_sq ?_
            refine HW_seq rfl ?_
            refine HW_text (.pure 0 (.pure 1 (.pure 2 (.pure 3 (.pure 4 (.pure 5 (.pure 6 (.pure 7 (.pure 8 (.pure 9 (.pure 10 (.pure 11 (.pure 12 (.pure 13 (.pure 14 (.act 15 (.pure 16 (.pure 17 .done)))))))))))))))))) (by kernel_rfl) ?_
            refine rw_p rfl rfl (y_move rfl) ?_
            refine rw_p rfl rfl (y_as (c := false) (y_ne rfl rfl) (decide_eq_false (fun h => h rfl))) ?_
            refine rw_p rfl rfl (y_move rfl) ?_
            refine rw_p rfl rfl (y_move rfl) ?_
            refine rw_p rfl rfl (y_move rfl) ?_
            refine rw_p rfl rfl (y_move rfl) ?_
            refine rw_p rfl rfl (y_fieldAddr rfl fo35_0) ?_
            refine rw_p rfl rfl (y_load rfl sc3 (hm.nt 1 rfl) rfl) ?_
            refine rw_p rfl rfl (y_mul rfl rfl (mulN (by omega))) ?_
            refine rw_p rfl rfl (y_move rfl) ?_
            refine rw_p rfl rfl (y_add rfl rfl (addN (by omega))) ?_
            refine rw_p rfl rfl (y_fieldAddr rfl fo35_0) ?_
            refine rw_p rfl rfl (y_load rfl sc3 (hm.nt 1 rfl) rfl) ?_
            refine rw_p rfl rfl (y_mul rfl rfl (mulN (by omega))) ?_
            refine rw_p rfl rfl (y_v (y_slice (ln := (y * a)) (hn := ((y + 1) * a)) rfl sl24 ⟨_, rfl⟩ ⟨_, rfl⟩ (by omega) (by omega) (fun h => hh_d.spot (by show cap_d ≠ 0; omega))) (show _ = Value.slice (slp p_d cap_d (y * a) 1) (((Pl.contents D).drop (y * a)).take a).length (cap_d - y * a) by rw [hrl, hi1, Nat.add_sub_cancel_left])) ?_
            refine a_call rfl rfl rfl go14 (C.as (v := .bool true) (eq_b p_s (slp p_d cap_d (y * a) 1) cap_s (cap_d - y * a) _ (((Pl.contents D).drop (y * a)).take a) _ (ha_s.rd hm 0 rfl) ((hh_d.rd hm (fun e he => by simp [he])).sub hl_d) (by omega) (by omega)) (congrArg Value.bool (decide_eq_true rfl))) fun v w hR => ?_
            obtain ⟨rfl, hE⟩ := hR
            refine ⟨trivial, ?_⟩
            replace hm := hm.ext hE
            refine rw_p rfl rfl (y_not rfl) ?_
            refine rw_p rfl rfl (y_pickF rfl rfl) ?_
            refine rw_done ?_
            refine gn_sq ?_
            refine HW_condF rfl rfl rfl ?_
            refine HW_skip rfl ?_
            refine gn_bl ?_
            refine gn_sq ?_
            refine HW_text (.pure 0 (.pure 1 .done)) (by kernel_rfl) ?_
            refine rw_p rfl rfl (y_add rfl rfl (i64w (by omega) (by omega))) ?_
            refine rw_p rfl rfl (y_move rfl) ?_
            refine rw_done ?_
            refine next (y + 1) (by omega) ⟨(hm.pickT [1] 2 rfl), by omega⟩ ⟨nx y, rfl, rfl, rfl, rfl, trivial⟩
          ·
            refine HW_exit rfl ?_
            refine gx_sq (gx_lp ?_)
            refine gx_here ?_
            refine gn_sq ?_
            refine HW_seq rfl ?_
            refine HW_text (.act 0 (.pure 1 .done)) (by kernel_rfl) ?_
            refine a_call rfl rfl rfl go8 (law_alive _) fun v w hR => ?_
            obtain ⟨rfl, hE⟩ := hR
            refine ⟨trivial, ?_⟩
            replace hm := hm.ext hE
            refine rw_p rfl rfl (y_assign rfl) ?_
            refine rw_done ?_
            refine gn_sq ?_
            refine HW_ret rfl ?_
            refine toR (fin hret rfl (.tmp rfl .nil) .one ?_)
            exact ⟨rfl, hm.to⟩

end Go.Proofs.Ythokcfkcamcapaa
