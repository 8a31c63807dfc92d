/- Contracts of functions of the program: what each returns. Conditions: the hypotheses of each theorem. -/
import Derived.Test.YthokcfkcamcapaaLawE
set_option linter.unusedVariables false
set_option linter.unusedSimpArgs false
namespace Go.Proofs.Ythokcfkcamcapaa
open Go Go.Cx

theorem sz55 : szO Try.prog 55 = some 2 := by kernel_rfl
theorem un4 : Try.prog.underlying 4 = some .bool := by kernel_rfl

set_option maxHeartbeats 3200000 in
theorem law_crashes (u1 u2 : Int) (pb : Option Addr) (cb : Nat) (bs : List UInt8) (q : Option Addr) (cq : Nat) (xs : List StV) (w0 : World) (hbk : SB.ok w0 ⟨pb, cb, bs⟩) (hu1 : Pl.I64 u1) (hu2 : Pl.I64 u2) (hq : Rd w0 q (xs.flatMap encSt)) (hxs : ∀ x, x ∈ xs → okSt w0 x) (hl : xs.length ≤ 9223372036854775807) (u3 : Int) (hu3 : 0 ≤ u3 ∧ u3 ≤ 18446744073709551615) : C Try.prog 5 [.agg ⟨[.int .i64 u1, .int .i64 u2, .slice pb bs.length cb]⟩, .slice q xs.length cq, .int .u64 u3] w0 fun v w' => v = .bool true ∧ Ext No w0 w' := by
  simp only [Pl.I64] at hu1 hu2
  have hbl := hbk.le
  have hbm := hbk.max
  simp only at hbl hbm
  refine C_of Try.func5 rfl rfl rfl fun κ hret hnorm => ?_
  have hm := Mem.start w0
  refine HW_seq rfl ?_
  refine HW_text (.act 0 (.pure 1 .done)) (by kernel_rfl) ?_
  refine a_box rfl rfl rfl rfl hm trivial fun m1 w hg_m1 hm hh => ?_
  refine rw_p rfl rfl (y_assign rfl) ?_
  refine rw_done ?_
  refine gn_sq ?_
  refine HW_seq rfl ?_
  refine HW_seq rfl ?_
  refine HW_text (.pure 0 (.pure 1 (.act 2 (.pure 3 .done)))) (by kernel_rfl) ?_
  refine rw_p rfl rfl (y_loadA (s := 3) (vs := [_, _, _]) rfl ag35 (hm.nt 0 rfl) rfl) ?_
  refine rw_p rfl rfl (y_move rfl) ?_
  refine a_call rfl rfl rfl go17 (law_fits u1 u2 pb cb bs q xs.length cq _ (by omega)) fun v w hR => ?_
  obtain ⟨rfl, hE⟩ := hR
  refine ⟨trivial, ?_⟩
  replace hm := hm.ext hE
  refine rw_p rfl rfl (y_not rfl) ?_
  refine rw_done ?_
  refine gn_sq ?_
  refine HW_cond rfl rfl (fun hc0 => ?_) (fun hc0 => ?_)
  ·
    refine HW_seq rfl ?_
    refine HW_text (.act 0 (.pure 1 .done)) (by kernel_rfl) ?_
    refine a_call rfl rfl rfl go8 (law_alive _) fun v w hR => ?_
    obtain ⟨rfl, hE⟩ := hR
    refine ⟨trivial, ?_⟩
    replace hm := hm.ext hE
    refine rw_p rfl rfl (y_assign rfl) ?_
    refine rw_done ?_
    refine gn_sq ?_
    refine HW_ret rfl ?_
    refine gr_sq ?_
    refine toR (fin hret rfl (.tmp rfl .nil) .one ?_)
    exact ⟨rfl, hm.to⟩
  ·
    have hfit := hc0
    simp only [Bool.not_eq_false, Bool.not_eq_false', Bool.and_eq_true, decide_eq_true_eq] at hfit
    obtain ⟨⟨hrt, h500⟩, h60⟩ := hfit
    obtain ⟨h1, h2, h3, h4⟩ := Pl.right_of hrt
    obtain ⟨a, rfl⟩ : ∃ a : Nat, u1 = a := ⟨u1.toNat, by omega⟩
    obtain ⟨c, rfl⟩ : ∃ c : Nat, u2 = c := ⟨u2.toNat, by omega⟩
    have hac : (a : Int) * (c : Int) = ((c * a : Nat) : Int) := by rw [Nat.mul_comm]; norm_cast
    rw [hac] at h3 h4
    have hca : 1 ≤ c * a := Nat.mul_pos (by omega) (by omega)
    have ha9 : a ≤ c * a := Nat.le_mul_of_pos_left _ (by omega)
    have hc9 : c ≤ c * a := Nat.le_mul_of_pos_right _ (by omega)
    rw [hac] at h500
    refine HW_skip rfl ?_
    refine gn_sq ?_
    refine HW_via (ι := Nat × Nat × List (Nat × Blk) × List (Nat × Blk)) rfl (ks := [1, 2, 3, 6]) (.cons rfl (.cons rfl (.cons rfl (.cons rfl .nil)))) (fun v => [(7, .pointer (some ⟨v.1, 0, none⟩)), (8, .pointer (some ⟨v.2.1, 0, none⟩))]) (fun v w => Mem w0 w No ((m1, .row 35 [.int .i64 (a : Int), .int .i64 (c : Int), .slice pb bs.length cb]) :: (v.2.2.1 ++ v.2.2.2)) ∧ DevZ 72 84 5 (Pl.nDv a c bs) v.1 v.2.2.1 ∧ RefZ 48 55 5 (Pl.nDv a c bs) v.2.1 v.2.2.2) ?_ (fun v w hM => ?_)
    ·
      refine HW_draw (.pure 0 (.pure 1 (.pure 2 (.pure 3 (.pure 4 (.pure 5 (.pure 8 (.pure 9 (.pure 10 (.pure 11 (.pure 12 (.pure 13 (.act 6 (.act 7 (.cut (.act 14 (.pure 15 (.pure 16 .done)))))))))))))))))) No mix (by kernel_rfl) hm fun w hw hm0 hh => ?_
      have hm := hm0
      refine rw_p rfl rfl (y_fieldAddr rfl fo35_0) ?_
      refine rw_p rfl rfl (y_load rfl sc3 (hm0.nd 0 rfl id) rfl) ?_
      refine rw_p rfl rfl (y_fieldAddr rfl fo35_1) ?_
      refine rw_p rfl rfl (y_load rfl sc3 (hm0.nd 0 rfl id) rfl) ?_
      refine rw_p rfl rfl (y_fieldAddr rfl fo35_2) ?_
      refine rw_p rfl rfl (y_load rfl sc24 (hm0.nd 0 rfl id) rfl) ?_
      refine rw_p rfl rfl (y_fieldAddr rfl fo35_0) ?_
      refine rw_p rfl rfl (y_load rfl sc3 (hm0.nd 0 rfl id) rfl) ?_
      refine rw_p rfl rfl (y_fieldAddr rfl fo35_1) ?_
      refine rw_p rfl rfl (y_load rfl sc3 (hm0.nd 0 rfl id) rfl) ?_
      refine rw_p rfl rfl (y_fieldAddr rfl fo35_2) ?_
      refine rw_p rfl rfl (y_load rfl sc24 (hm0.nd 0 rfl id) rfl) ?_
      refine a_buildSlice (l := [_]) rfl rfl sl22 z24 rfl rfl rfl rfl rfl rfl rfl hm hh fun m2 w hg_m2 hm hh => ?_
      refine a_call rfl rfl rfl go9 (o_newN a c _ 1 [⟨pb, cb, bs⟩] _ (Rd.row0 (hm.get (k := 0) rfl)) (fun s hs => by rw [List.mem_singleton.1 hs]; exact hbk.rd.ext0 hm.to) (by simp) (by simp; omega) bs (by simp) hrt) fun v w hR => ?_
      obtain ⟨m, Zw, rfl, hz, hmc⟩ := hR
      refine ⟨Hold.ext hh hmc.to, ?_⟩
      replace hm := hm.callTZ hmc
      replace hh := Hold.ext hh hmc.to
      refine a_cut ?_
      refine a_call rfl rfl rfl go18 (rf_new a c pb cb bs _ (hbk.rd.ext0 hm.to) (by omega) (by omega) (by omega) (by omega)) fun v w hR => ?_
      obtain ⟨mr, Zr, rfl, hy, hmc⟩ := hR
      refine ⟨trivial, ?_⟩
      replace hm := Mem.callT2 (A := [_, _]) hm hmc
      refine rw_p rfl rfl (y_assign rfl) ?_
      refine rw_p rfl rfl (y_assign rfl) ?_
      refine rw_done ?_
      exact gn_vi (m, mr, Zw, Zr) ⟨(hm.pickT [1] 2 rfl), hz, hy⟩ ⟨rfl, rfl, rfl, rfl, rfl, rfl, trivial⟩
    ·
      obtain ⟨m, mr, Zw, Zr⟩ := v
      obtain ⟨hm, hz, hy⟩ := hM
      simp only at hm hz hy ⊢
      refine HW_seq rfl ?_
      refine HW_seq rfl ?_
      refine HW_text (.pure 0 (.pure 1 .done)) (by kernel_rfl) ?_
      refine rw_p rfl rfl (y_move rfl) ?_
      refine rw_p rfl rfl (y_pnil rfl rfl pb25) ?_
      refine rw_done ?_
      refine gn_sq ?_
      refine HW_condF rfl rfl rfl ?_
      refine HW_skip rfl ?_
      refine gn_sq ?_
      refine HW_seq rfl ?_
      refine HW_seq rfl ?_
      refine HW_text (.pure 0 (.pure 1 (.pure 2 .done))) (by kernel_rfl) ?_
      refine rw_p rfl rfl (y_move rfl) ?_
      refine rw_p rfl rfl (y_len rfl rfl sl36) ?_
      refine rw_p rfl rfl (y_move rfl) ?_
      refine rw_done ?_
      refine gn_sq ?_
      refine HW_block rfl ?_
      refine HW_loopK (ι := Nat × Pl.Dv × List (Nat × Blk) × List (Nat × Blk)) rfl (ks := [2, 3, 6, 7, 8, 42, 43]) (.cons rfl (.cons rfl (.cons rfl (.cons rfl (.cons rfl (.cons rfl (.cons rfl .nil))))))) (fun y => [(44, .int .i64 y.1)]) (fun y w => Mem w0 w No ((m1, .row 35 [.int .i64 (a : Int), .int .i64 (c : Int), .slice pb bs.length cb]) :: (y.2.2.1 ++ y.2.2.2)) ∧ DevZ 72 84 5 y.2.1 m y.2.2.1 ∧ RefZ 48 55 5 y.2.1 mr y.2.2.2 ∧ y.2.1.ca.length ≤ y.1 ∧ y.2.1.sz = a ∧ y.2.1.cnt = c ∧ y.1 ≤ xs.length) (fun y => xs.length - y.1) (0, (Pl.nDv a c bs), Zw, Zr) (⟨hm, hz, hy, Nat.zero_le _, rfl, rfl, Nat.zero_le _⟩) ⟨rfl, trivial⟩ (fun y w hM => ?_)
      obtain ⟨hm, hz, hy, hcl, hsz, hcn, hk⟩ := hM
      refine HW_seq rfl ?_
      refine HW_text (.pure 0 .done) (by kernel_rfl) ?_
      refine rw_p rfl rfl (y_lt rfl rfl) ?_
      refine rw_done ?_
      refine gn_sq ?_
      refine HW_seq rfl ?_
      refine HW_cond rfl rfl (fun hc2 => ?_) (fun hc2 => ?_)
      ·
        simp only [decide_eq_true_eq] at hc2
        obtain ⟨s, hi⟩ : ∃ y_, xs[y.1]? = some y_ := ⟨_, List.getElem?_eq_getElem (by omega)⟩
        obtain ⟨qb, qo, rfl⟩ := hq.atI encSt_len (by decide) hi
        have hs := hxs s (List.mem_of_getElem? hi)
        have hol := Pl.opDv_len y.2.1 s.k s.n s.s.bs s.kp
        refine HW_skip rfl ?_
        refine gn_sq ?_
        refine HW_seq rfl ?_
        refine HW_block rfl ?_
        refine HW_seq rfl ?_
        refine HW_text (.pure 0 (.pure 1 (.act 2 (.act 3 .done)))) (by kernel_rfl) ?_
        refine rw_p rfl rfl (y_index rfl rfl sl36 rfl (by omega) (by omega)) ?_
        refine rw_p rfl rfl (y_elA rfl ag42 (hq.ext0 hm.to).nt encSt_len hi) ?_
        refine a_alloc rfl rfl z42 hm trivial fun m22 w hg_m22 hm hh => ?_
        refine a_store rfl rfl rfl rfl sz42 rfl hm 0 rfl rfl fun w hm => ?_
        refine rw_done ?_
        refine gn_sq ?_
        refine HW_text (.pure 0 (.pure 1 (.pure 2 (.act 3 .done)))) (by kernel_rfl) ?_
        refine rw_p rfl rfl (y_move rfl) ?_
        refine rw_p rfl rfl (y_move rfl) ?_
        refine rw_p rfl rfl (y_loadA (s := 4) (vs := [_, _, _, _]) rfl ag42 (hm.nt 0 rfl) rfl) ?_
        refine a_call rfl rfl rfl go19 (law_do y.2.1 m mr _ _ s.k s.n s.kp s.s.p s.s.cap s.s.bs _ (OwnZ.right (A := [_, _]) hm.ownZ) hz hy (hs.1.rd.ext0 hm.to) (Mem.apartZ (A := [_, _]) hm hs.1.rd) hs.1.le hs.2.2.1 hs.2.2.2 (by omega)) fun v w hR => ?_
        obtain ⟨rfl, Zw, Zr, hz, hy, hmc⟩ := hR
        refine ⟨trivial, ?_⟩
        replace hm := Mem.callZL (A := [_, _]) hm hmc
        refine rw_done ?_
        refine gn_bl ?_
        refine gn_sq ?_
        refine HW_text (.pure 0 (.pure 1 .done)) (by kernel_rfl) ?_
        refine rw_p rfl rfl (y_add rfl rfl (i64w (by omega) (by omega))) ?_
        refine rw_p rfl rfl (y_move rfl) ?_
        refine rw_done ?_
        refine next (y.1 + 1, Pl.opDv y.2.1 s.k s.n s.s.bs s.kp, Zw, Zr) (by simp only; omega) ⟨(hm.pickT [1] 2 rfl), hz, hy, by simp only; omega, by simp only; omega, by simp only; omega, by simp only; omega⟩ ⟨nx y.1, rfl, rfl, rfl, rfl, rfl, rfl, rfl, trivial⟩
      ·
        clear hc0
        obtain ⟨k9, D, Zw, Zr⟩ := y
        simp only at hm hz hy hcl hsz hcn hk hc2 ⊢
        refine HW_exit rfl ?_
        refine gx_sq (gx_lp ?_)
        refine gx_here ?_
        refine gn_sq ?_
        refine HW_seq rfl ?_
        refine HW_seq rfl ?_
        refine HW_draw (.pure 0 (.pure 2 (.pure 3 (.pure 4 (.pure 5 (.act 1 (.cut (.pure 6 (.pure 7 (.pure 8 (.act 9 (.pure 10 .done)))))))))))) No mix (by kernel_rfl) hm fun w hw hm0 hh => ?_
        have hm := hm0
        obtain ⟨qB_, kB_, qC_, kC_, cs, hPy, hd9, hp9, hw9⟩ := hy.row (OwnZ.end (A := [_]) hm.ownZ)
        refine rw_p rfl rfl (y_move rfl) ?_
        refine rw_p rfl rfl (y_move rfl) ?_
        refine rw_p rfl rfl (y_nil rfl) ?_
        refine rw_p rfl rfl (y_fieldAddr rfl fo48_6) ?_
        refine rw_p rfl rfl (y_load rfl sc4 (fun u hu => (Ext.same hu _ (Array.getElem?_eq_some_iff.1 hPy).1 id).trans hPy) rfl) ?_
        refine a_call rfl rfl rfl go20 (o_down D m _ _ (OwnZ.mid (A := [_]) hm.ownZ) hz) fun v w hR => ?_
        obtain ⟨rfl, hE⟩ := hR
        refine ⟨hh.ext hE, ?_⟩
        replace hm := hm.ext hE
        replace hh := hh.ext hE
        refine a_cut ?_
        refine rw_p rfl rfl (y_as (c := false) (y_bneq rfl rfl un4) (by simp)) ?_
        refine rw_p rfl rfl (y_move rfl) ?_
        refine rw_p rfl rfl (y_move rfl) ?_
        refine a_call rfl rfl rfl go20 (o_down D m _ _ (OwnZ.mid (A := [_]) hm.ownZ) hz) fun v w hR => ?_
        obtain ⟨rfl, hE⟩ := hR
        refine ⟨trivial, ?_⟩
        replace hm := hm.ext hE
        refine rw_p rfl rfl (y_pickF rfl rfl) ?_
        refine rw_done ?_
        refine gn_sq ?_
        refine HW_cond rfl rfl (fun hc3 => ?_) (fun hc3 => ?_)
        ·
          refine HW_seq rfl ?_
          refine HW_text (.act 0 (.pure 1 (.pure 2 (.act 3 (.pure 4 (.pure 5 (.pure 6 (.pure 7 (.pure 8 (.pure 9 (.pure 10 (.pure 11 .done)))))))))))) (by kernel_rfl) ?_
          refine a_call rfl rfl rfl go8 (law_alive _) fun v w hR => ?_
          obtain ⟨rfl, hE⟩ := hR
          refine ⟨trivial, ?_⟩
          replace hm := hm.ext hE
          refine rw_p rfl rfl (y_move rfl) ?_
          refine rw_p rfl rfl (y_move rfl) ?_
          refine a_call rfl rfl rfl go20 (C.as (v := .bool true) (o_down D m _ _ (OwnZ.mid (A := [_]) hm.ownZ) hz) (congrArg Value.bool hc3)) fun v w hR => ?_
          obtain ⟨rfl, hE⟩ := hR
          refine ⟨trivial, ?_⟩
          replace hm := hm.ext hE
          refine rw_p rfl rfl (y_pickT rfl rfl) ?_
          obtain ⟨qB_, kB_, qC_, kC_, sC_, hPy, hd9, hp9, hw9⟩ := hy.row (OwnZ.end (A := [_]) hm.ownZ)
          refine rw_p rfl rfl (y_move rfl) ?_
          refine rw_p rfl rfl (y_move rfl) ?_
          refine rw_p rfl rfl (y_nil rfl) ?_
          refine rw_p rfl rfl (y_fieldAddr rfl fo48_6) ?_
          refine rw_p rfl rfl (y_v (y_load rfl sc4 (nowT hPy) rfl) (congrArg Value.bool hc3)) ?_
          refine rw_p rfl rfl (y_pickT rfl rfl) ?_
          refine rw_p rfl rfl (y_assign rfl) ?_
          refine rw_done ?_
          refine gn_sq ?_
          refine HW_ret rfl ?_
          refine gr_sq ?_
          refine toR (fin hret rfl (.tmp rfl .nil) .one ?_)
          exact ⟨rfl, hm.to⟩
        ·
          refine HW_skip rfl ?_
          refine gn_sq ?_
          refine HW_seq rfl ?_
          refine HW_draw (.pure 0 (.pure 1 (.pure 2 (.pure 3 (.pure 4 (.pure 5 (.pure 6 (.pure 7 (.pure 8 (.pure 9 .done)))))))))) No mix (by kernel_rfl) hm fun w hw hm0 hh => ?_
          have hm := hm0
          obtain ⟨qB_, kB_, qC_, kC_, cs, hPy, hd9, hp9, hw9⟩ := hy.row (OwnZ.end (A := [_]) hm.ownZ)
          refine rw_p rfl rfl (y_move rfl) ?_
          refine rw_p rfl rfl (y_nil rfl) ?_
          refine rw_p rfl rfl (y_fieldAddr rfl fo48_2) ?_
          refine rw_p rfl rfl (y_load rfl sc24 (fun u hu => (Ext.same hu _ (Array.getElem?_eq_some_iff.1 hPy).1 id).trans hPy) rfl) ?_
          refine rw_p rfl rfl (y_move rfl) ?_
          refine rw_p rfl rfl (y_nil rfl) ?_
          refine rw_p rfl rfl (y_fieldAddr rfl fo48_3) ?_
          refine rw_p rfl rfl (y_load rfl sc46 (fun u hu => (Ext.same hu _ (Array.getElem?_eq_some_iff.1 hPy).1 id).trans hPy) rfl) ?_
          refine rw_p rfl rfl (y_assign rfl) ?_
          refine rw_p rfl rfl (y_assign rfl) ?_
          refine rw_done ?_
          refine gn_sq ?_
          refine HW_seq rfl ?_
          refine HW_text (.pure 0 (.pure 1 (.act 2 (.pure 3 .done)))) (by kernel_rfl) ?_
          refine rw_p rfl rfl (y_fieldAddr rfl fo35_0) ?_
          refine rw_p rfl rfl (y_load rfl sc3 (hm.nt 0 rfl) rfl) ?_
          refine a_make rfl rfl rfl rfl sl24 z5 rfl (by omega) (by omega) (by omega) hm trivial fun g_f w hg_f ha_f hm hh => ?_
          have hok := hz.ok
          have hol := hok.len
          rw [hsz, hcn] at hol
          have hle9 := hd9.le
          simp only at hle9
          replace ha_f := ha_f.to (repB a)
          have hcr := Pl.crD_eq (u := u3) hok hc3
          have hcl9 := Pl.crD_len (u := u3) hok hc3
          refine rw_p rfl rfl (y_assign rfl) ?_
          refine rw_done ?_
          refine gn_sq ?_
          refine HW_seq rfl ?_
          refine HW_text (.pure 0 (.pure 1 (.act 2 .done))) (by kernel_rfl) ?_
          refine rw_p rfl rfl (y_move rfl) ?_
          refine rw_p rfl rfl (y_move rfl) ?_
          refine a_call rfl rfl rfl go25 (o_arm D m _ _ (OwnZ.mid (A := [_, _]) hm.ownZ) hz 0 u3 (by decide) hu3) fun v w hR => ?_
          obtain ⟨rfl, Zw, hz, hmc⟩ := hR
          refine ⟨trivial, ?_⟩
          replace hm := Mem.callM (A := [_, _]) hm hmc
          refine rw_done ?_
          refine gn_sq ?_
          refine HW_seq rfl ?_
          refine HW_seq rfl ?_
          refine HW_text (.pure 0 (.pure 1 (.act 2 (.pure 3 (.pure 4 (.pure 5 (.act 6 (.pure 7 (.pure 8 .done))))))))) (by kernel_rfl) ?_
          refine rw_p rfl rfl (y_move rfl) ?_
          refine rw_p rfl rfl (y_move rfl) ?_
          refine a_call rfl rfl rfl go26 (C.eqv (o_write (Pl.aDv D 0 u3) m _ _ (OwnZ.mid (A := [_, _]) hm.ownZ) hz _ a (List.replicate D.sz 0) 0 ((ha_f.rd hm 0 rfl).to9 (by rw [hsz])) (fun _ ad e h9 => by cases e; exact Mem.notT (A := [_, _]) hm (k := 0) rfl rfl (Mn_left h9)) (by rw [List.length_replicate, hsz]; exact Nat.le_refl _) (by show D.ca.length ≤ _; omega)) (by rw [List.length_replicate, hsz])) fun v w hR => ?_
          obtain ⟨rfl, Zw, hz, hmc⟩ := hR
          refine ⟨trivial, ?_⟩
          replace hm := Mem.callM (A := [_, _]) hm hmc
          replace hz : DevZ 72 84 5 (Pl.crD D u3) m Zw := hz
          refine rw_p rfl rfl (y_as (c := false) (y_ne rfl rfl) (decide_eq_false (by rw [hcr.1]; exact fun h => h rfl))) ?_
          refine rw_p rfl rfl (y_move rfl) ?_
          refine rw_p rfl rfl (y_move rfl) ?_
          refine a_call rfl rfl rfl go20 (C.as (v := .bool true) (o_down (Pl.crD D u3) m _ _ (OwnZ.mid (A := [_, _]) hm.ownZ) hz) (congrArg Value.bool hcr.2.1)) fun v w hR => ?_
          obtain ⟨rfl, hE⟩ := hR
          refine ⟨trivial, ?_⟩
          replace hm := hm.ext hE
          refine rw_p rfl rfl (y_not rfl) ?_
          refine rw_p rfl rfl (y_pickF rfl rfl) ?_
          refine rw_done ?_
          refine gn_sq ?_
          refine HW_condF rfl rfl rfl ?_
          refine HW_skip rfl ?_
          refine gn_sq ?_
          refine HW_seq rfl ?_
          refine HW_text (.pure 0 (.act 1 (.pure 2 .done))) (by kernel_rfl) ?_
          refine rw_p rfl rfl (y_move rfl) ?_
          refine a_call rfl rfl rfl go13 (o_disk (Pl.crD D u3) m _ _ (OwnZ.mid (A := [_, _]) hm.ownZ) hz) fun v w hR => ?_
          obtain ⟨p_s, cap_s, g_s, b_s, rfl, ha_s, hmc⟩ := hR
          refine ⟨trivial, ?_⟩
          have hg_s : b_s.real = true → _ := fun hr => (hmc.fresh _ List.mem_cons_self hr).resolve_left id
          replace hm := hm.callN hmc
          refine rw_p rfl rfl (y_assign rfl) ?_
          refine rw_done ?_
          refine gn_sq ?_
          refine HW_seq rfl ?_
          refine HW_seq rfl ?_
          refine HW_text (.pure 0 (.pure 1 (.pure 2 (.pure 3 (.pure 4 .done))))) (by kernel_rfl) ?_
          refine rw_p rfl rfl (y_move rfl) ?_
          refine rw_p rfl rfl (y_len rfl rfl sl24) ?_
          refine rw_p rfl rfl (y_move rfl) ?_
          refine rw_p rfl rfl (y_len rfl rfl sl24) ?_
          refine rw_p rfl rfl (y_as (c := false) (y_ne rfl rfl) (decide_eq_false (by rw [hcl9]; exact fun h => h rfl))) ?_
          refine rw_done ?_
          refine gn_sq ?_
          refine HW_condF rfl rfl rfl ?_
          refine HW_skip rfl ?_
          refine gn_sq ?_
          refine HW_seq rfl ?_
          refine HW_seq rfl ?_
          refine HW_text (.pure 0 (.pure 1 (.pure 2 .done))) (by kernel_rfl) ?_
          refine rw_p rfl rfl (y_fieldAddr rfl fo35_1) ?_
          refine rw_p rfl rfl (y_load rfl sc3 (hm.nt 2 rfl) rfl) ?_
          refine rw_p rfl rfl (y_move rfl) ?_
          refine rw_done ?_
          refine gn_sq ?_
          refine HW_block rfl ?_
          refine HW_loopK (ι := Nat) rfl (ks := [3, 11, 12, 13, 14, 106]) (.cons rfl (.cons rfl (.cons rfl (.cons rfl (.cons rfl (.cons rfl .nil)))))) (fun y => [(107, .int .i64 y)]) (fun y w => Mem w0 w No ((g_s, b_s) :: (g_f, .row 5 (repZ [.int .u8 0] a)) :: (m1, .row 35 [.int .i64 (a : Int), .int .i64 (c : Int), .slice pb bs.length cb]) :: (Zw ++ Zr)) ∧ y ≤ c) (fun y => c - y) 0 (⟨(hm.pickT [0, 1, 2] 3 rfl), Nat.zero_le _⟩) ⟨rfl, trivial⟩ (fun y w hM => ?_)
          obtain ⟨hm, hk9⟩ := hM
          refine HW_seq rfl ?_
          refine HW_text (.pure 0 .done) (by kernel_rfl) ?_
          refine rw_p rfl rfl (y_lt rfl rfl) ?_
          refine rw_done ?_
          refine gn_sq ?_
          refine HW_seq rfl ?_
          refine HW_cond rfl rfl (fun hc6 => ?_) (fun hc6 => ?_)
          ·
            simp only [decide_eq_true_eq] at hc6
            have hyc : y < c := by omega
            have hse : y * a + a ≤ c * a := Pl.sec_le hyc
            have hi1 : (y + 1) * a = y * a + a := by rw [Nat.add_mul, Nat.one_mul]
            have hsec := Pl.crD_sec (u := u3) hok hc3 (i := y) (by omega)
            rw [hsz] at hsec
            have hSl : (((Pl.crD D u3).dk.drop (y * a)).take a).length = a := by rw [List.length_take, List.length_drop, hcl9]; omega
            have hOl : ((D.dk.drop (y * a)).take a).length = a := by rw [List.length_take, List.length_drop]; omega
            have hks := wr_len hw9
            have hfin := crash_ok hw9 hsec
            have hsle := ha_s.le
            rw [hcl9] at hsle
            refine HW_skip rfl ?_
            refine gn_sq ?_
            refine HW_seq rfl ?_
            refine HW_block rfl ?_
            refine HW_seq rfl ?_
            refine HW_text (.pure 0 (.pure 1 .done)) (by kernel_rfl) ?_
            refine rw_p rfl rfl (y_move rfl) ?_
            refine rw_p rfl rfl (y_assign rfl) ?_
            refine rw_done ?_
            refine gn_sq ?_
            refine HW_seq rfl ?_
            refine HW_text (.pure 0 (.pure 1 (.pure 2 (.pure 3 (.pure 4 (.pure 5 (.pure 6 (.pure 7 (.pure 8 (.pure 9 (.pure 10 (.pure 11 .done)))))))))))) (by kernel_rfl) ?_
            refine rw_p rfl rfl (y_move rfl) ?_
            refine rw_p rfl rfl (y_move rfl) ?_
            refine rw_p rfl rfl (y_fieldAddr rfl fo35_0) ?_
            refine rw_p rfl rfl (y_load rfl sc3 (hm.nt 2 rfl) rfl) ?_
            refine rw_p rfl rfl (y_mul rfl rfl (mulN (by omega))) ?_
            refine rw_p rfl rfl (y_move rfl) ?_
            refine rw_p rfl rfl (y_add rfl rfl (addN (by omega))) ?_
            refine rw_p rfl rfl (y_fieldAddr rfl fo35_0) ?_
            refine rw_p rfl rfl (y_load rfl sc3 (hm.nt 2 rfl) rfl) ?_
            refine rw_p rfl rfl (y_mul rfl rfl (mulN (by omega))) ?_
            refine rw_p rfl rfl (y_v (y_slice (ln := (y * a)) (hn := ((y + 1) * a)) rfl sl24 ⟨_, rfl⟩ ⟨_, rfl⟩ (by omega) (by omega) (fun h => ha_s.spot (by omega))) (show _ = Value.slice (slp p_s cap_s (y * a) 1) (((Pl.crD D u3).dk.drop (y * a)).take a).length (cap_s - y * a) by rw [hSl, hi1, Nat.add_sub_cancel_left])) ?_
            refine rw_p rfl rfl (y_assign rfl) ?_
            refine rw_done ?_
            refine gn_sq ?_
            refine HW_seq rfl ?_
            refine HW_text (.pure 0 (.pure 1 (.pure 2 (.pure 3 (.pure 4 (.pure 5 (.pure 6 (.pure 7 (.pure 8 (.pure 9 (.pure 10 (.pure 11 (.act 12 (.pure 13 (.pure 14 (.pure 15 (.pure 16 (.pure 17 (.pure 18 (.act 19 (.pure 20 (.pure 21 (.pure 22 .done))))))))))))))))))))))) (by kernel_rfl) ?_
            refine rw_p rfl rfl (y_move rfl) ?_
            refine rw_p rfl rfl (y_move rfl) ?_
            refine rw_p rfl rfl (y_move rfl) ?_
            refine rw_p rfl rfl (y_fieldAddr rfl fo35_0) ?_
            refine rw_p rfl rfl (y_load rfl sc3 (hm.nt 2 rfl) rfl) ?_
            refine rw_p rfl rfl (y_mul rfl rfl (mulN (by omega))) ?_
            refine rw_p rfl rfl (y_move rfl) ?_
            refine rw_p rfl rfl (y_add rfl rfl (addN (by omega))) ?_
            refine rw_p rfl rfl (y_fieldAddr rfl fo35_0) ?_
            refine rw_p rfl rfl (y_load rfl sc3 (hm.nt 2 rfl) rfl) ?_
            refine rw_p rfl rfl (y_mul rfl rfl (mulN (by omega))) ?_
            refine rw_p rfl rfl (y_v (y_slice (ln := (y * a)) (hn := ((y + 1) * a)) rfl sl24 ⟨_, rfl⟩ ⟨_, rfl⟩ (by omega) (by omega) (fun h => hd9.spot (by show kB_ ≠ 0; omega))) (show _ = Value.slice (slp qB_ kB_ (y * a) 1) ((D.dk.drop (y * a)).take a).length (kB_ - y * a) by rw [hOl, hi1, Nat.add_sub_cancel_left])) ?_
            refine a_call rfl rfl rfl go14 (eq_b (slp p_s cap_s (y * a) 1) (slp qB_ kB_ (y * a) 1) (cap_s - y * a) (kB_ - y * a) (((Pl.crD D u3).dk.drop (y * a)).take a) ((D.dk.drop (y * a)).take a) _ ((ha_s.rd hm 0 rfl).sub ha_s.le) ((hd9.rd hm (fun e he => by simp [he])).sub hle9) (by omega) (by omega)) fun v w hR => ?_
            obtain ⟨rfl, hE⟩ := hR
            refine ⟨trivial, ?_⟩
            replace hm := hm.ext hE
            refine rw_p rfl rfl (y_move rfl) ?_
            refine rw_g rfl rfl rfl (fun hc => (y_move rfl)) ?_
            refine rw_g rfl rfl rfl (fun hc => (y_eq (gx hc rfl) rfl)) ?_
            refine rw_g rfl rfl rfl (fun hc => (y_move (gx hc rfl))) ?_
            refine rw_gg rfl rfl rfl (fun hc => (y_move rfl)) ?_
            refine rw_gg rfl rfl rfl (fun hc => (y_move rfl)) ?_
            refine a_callGG rfl rfl rfl (fun hc => (evs_c (gx hc rfl) (evs_c (gx hc rfl) evs_n))) go14 (fun hc => (C.eqv (eq_b (slp p_s cap_s (y * a) 1) _ (cap_s - y * a) a (((Pl.crD D u3).dk.drop (y * a)).take a) (List.replicate a (0 : UInt8)) _ ((ha_s.rd hm 0 rfl).sub ha_s.le) (ha_f.rd hm 1 rfl) (by omega) (by rw [List.length_replicate]; omega)) (by rw [List.length_replicate]))) trivial fun w hE hh => ?_
            replace hm := hm.ext hE
            refine rw_g rfl rfl rfl (fun hc => (y_and (gx hc rfl) (gvn hc rfl) rfl)) ?_
            refine rw_p rfl rfl (y_or rfl rfl rfl) ?_
            refine rw_p rfl rfl (y_assign rfl) ?_
            refine rw_done ?_
            refine gn_sq ?_
            refine HW_seq rfl ?_
            refine HW_seq rfl ?_
            refine HW_text (.pure 0 (.pure 1 (.pure 2 .done))) (by kernel_rfl) ?_
            refine rw_p rfl rfl (y_move rfl) ?_
            refine rw_p rfl rfl (y_len rfl rfl sl46) ?_
            refine rw_p rfl rfl (y_move rfl) ?_
            refine rw_done ?_
            refine gn_sq ?_
            refine HW_block rfl ?_
            refine HW_loopK (ι := Nat × Bool) rfl (ks := [3, 11, 12, 13, 14, 15, 16, 106, 107, 143, 144]) (.cons rfl (.cons rfl (.cons rfl (.cons rfl (.cons rfl (.cons rfl (.cons rfl (.cons rfl (.cons rfl (.cons rfl (.cons rfl .nil))))))))))) (fun jj => [(145, .int .i64 jj.1), (17, .bool jj.2)]) (fun jj w => Mem w0 w No ((g_s, b_s) :: (g_f, .row 5 (repZ [.int .u8 0] a)) :: (m1, .row 35 [.int .i64 (a : Int), .int .i64 (c : Int), .slice pb bs.length cb]) :: (Zw ++ Zr)) ∧ jj.1 ≤ cs.length ∧ jj.2 = ((decide ((((Pl.crD D u3).dk.drop (y * a)).take a) = ((D.dk.drop (y * a)).take a)) || (decide ((y : Int) = 0) && decide ((((Pl.crD D u3).dk.drop (y * a)).take a) = (List.replicate a (0 : UInt8))))) || ((cs.take jj.1).any fun z => decide ((z.i : Int) = (y : Int)) && decide ((((Pl.crD D u3).dk.drop (y * a)).take a) = z.d.bs)))) (fun jj => cs.length - jj.1) (0, (decide ((((Pl.crD D u3).dk.drop (y * a)).take a) = ((D.dk.drop (y * a)).take a)) || (decide ((y : Int) = 0) && decide ((((Pl.crD D u3).dk.drop (y * a)).take a) = (List.replicate a (0 : UInt8)))))) (⟨(hm.pickT [0, 1, 2] 3 rfl), Nat.zero_le _, by simp⟩) ⟨rfl, rfl, trivial⟩ (fun jj w hM => ?_)
            obtain ⟨hm, hk8, hj9⟩ := hM
            refine HW_seq rfl ?_
            refine HW_text (.pure 0 .done) (by kernel_rfl) ?_
            refine rw_p rfl rfl (y_lt rfl rfl) ?_
            refine rw_done ?_
            refine gn_sq ?_
            refine HW_seq rfl ?_
            refine HW_cond rfl rfl (fun hc7 => ?_) (fun hc7 => ?_)
            ·
              simp only [decide_eq_true_eq] at hc7
              obtain ⟨cc9, hic⟩ : ∃ y_, cs[jj.1]? = some y_ := ⟨_, List.getElem?_eq_getElem (by omega)⟩
              obtain ⟨b2, o2_, hqC⟩ := (hp9.rd hm (fun e he => by simp [he])).atI encP_len (by decide) hic
              have hcbl : cc9.d.bs.length = D.sz := (hok.ca _ (List.mem_of_getElem? (wr_get hw9 hic))).2
              refine HW_skip rfl ?_
              refine gn_sq ?_
              refine HW_seq rfl ?_
              refine HW_block rfl ?_
              refine HW_seq rfl ?_
              refine HW_text (.pure 0 (.pure 1 (.act 2 (.act 3 .done)))) (by kernel_rfl) ?_
              refine rw_p rfl rfl (y_index rfl rfl sl46 hqC (by omega) (by omega)) ?_
              refine rw_p rfl rfl (y_elA rfl ag55 (hqC ▸ hp9.rd hm (fun e he => by simp [he])).nt encP_len hic) ?_
              refine a_alloc rfl rfl z55 hm trivial fun m22 w hg_m22 hm hh => ?_
              refine a_store rfl rfl rfl rfl sz55 rfl hm 0 rfl rfl fun w hm => ?_
              refine rw_done ?_
              refine gn_sq ?_
              refine HW_text (.pure 0 (.pure 1 (.pure 2 (.pure 3 (.pure 4 (.pure 5 (.pure 6 (.pure 7 (.pure 8 (.pure 9 (.act 10 (.pure 11 (.pure 12 (.pure 13 .done)))))))))))))) (by kernel_rfl) ?_
              refine rw_p rfl rfl (y_move rfl) ?_
              refine rw_p rfl rfl (y_move rfl) ?_
              refine rw_g rfl rfl rfl (fun hc => (y_fieldAddr rfl fo55_0)) ?_
              refine rw_g rfl rfl rfl (fun hc => (y_load (gx hc rfl) sc3 (hm.nt 0 rfl) rfl)) ?_
              refine rw_g rfl rfl rfl (fun hc => (y_move rfl)) ?_
              refine rw_g rfl rfl rfl (fun hc => (y_eq (gx hc rfl) (gx hc rfl))) ?_
              refine rw_g rfl rfl rfl (fun hc => (y_move (gx hc rfl))) ?_
              refine rw_gg rfl rfl rfl (fun hc => (y_move rfl)) ?_
              refine rw_gg rfl rfl rfl (fun hc => (y_fieldAddr rfl fo55_1)) ?_
              refine rw_gg rfl rfl rfl (fun hc => (y_load (gx hc rfl) sc24 (hm.nt 0 rfl) rfl)) ?_
              refine a_callGG rfl rfl rfl (fun hc => (evs_c (gx hc rfl) (evs_c (gx hc rfl) evs_n))) go14 (fun hc => (eq_b (slp p_s cap_s (y * a) 1) cc9.d.p (cap_s - y * a) cc9.d.cap (((Pl.crD D u3).dk.drop (y * a)).take a) cc9.d.bs _ ((ha_s.rd hm 1 rfl).sub ha_s.le) ((hp9.2 cc9 (List.mem_of_getElem? hic)).rd (hm.pickT [] 4 rfl) (fun e he => show e ∈ Zw ++ Zr from List.mem_append_right _ he)) (by omega) (by omega))) trivial fun w hE hh => ?_
              replace hm := hm.ext hE
              refine rw_g rfl rfl rfl (fun hc => (y_and (gx hc rfl) (gvn hc rfl) rfl)) ?_
              refine rw_p rfl rfl (y_or rfl rfl rfl) ?_
              refine rw_p rfl rfl (y_assign rfl) ?_
              refine rw_done ?_
              refine gn_bl ?_
              refine gn_sq ?_
              refine HW_text (.pure 0 (.pure 1 .done)) (by kernel_rfl) ?_
              refine rw_p rfl rfl (y_add rfl rfl (i64w (by omega) (by omega))) ?_
              refine rw_p rfl rfl (y_move rfl) ?_
              refine rw_done ?_
              refine next (jj.1 + 1, (jj.2 || (decide ((cc9.i : Int) = (y : Int)) && decide ((((Pl.crD D u3).dk.drop (y * a)).take a) = cc9.d.bs)))) (by simp only; omega) ⟨(hm.pickT [1, 2, 3] 4 rfl), by simp only; omega, ?_⟩ ⟨nx jj.1, rfl, rfl, rfl, rfl, rfl, rfl, rfl, rfl, rfl, rfl, rfl, rfl, trivial⟩
              simp only [hj9, List.take_add_one, hic, Option.toList, List.any_append, List.any_cons, List.any_nil, Bool.or_false, Bool.or_assoc]
            ·
              simp only [decide_eq_false_iff_not] at hc7
              have hje : jj.1 = cs.length := by omega
              rw [hje, List.take_length, hfin] at hj9
              refine HW_exit rfl ?_
              refine gx_sq (gx_lp ?_)
              refine gx_here ?_
              refine gn_sq ?_
              refine HW_seq rfl ?_
              refine HW_text (.pure 0 (.pure 1 .done)) (by kernel_rfl) ?_
              refine rw_p rfl rfl (y_move rfl) ?_
              refine rw_p rfl rfl (y_as (c := false) (y_not rfl) (by rw [hj9]; rfl)) ?_
              refine rw_done ?_
              refine gn_sq ?_
              refine HW_condF rfl rfl rfl ?_
              refine HW_skip rfl ?_
              refine gn_bl ?_
              refine gn_sq ?_
              refine HW_text (.pure 0 (.pure 1 .done)) (by kernel_rfl) ?_
              refine rw_p rfl rfl (y_add rfl rfl (i64w (by omega) (by omega))) ?_
              refine rw_p rfl rfl (y_move rfl) ?_
              refine rw_done ?_
              refine next (y + 1) (by omega) ⟨(hm.pickT [0, 1, 2] 3 rfl), by omega⟩ ⟨nx y, rfl, rfl, rfl, rfl, rfl, rfl, trivial⟩
          ·
            refine HW_exit rfl ?_
            refine gx_sq (gx_lp ?_)
            refine gx_here ?_
            refine gn_sq ?_
            refine HW_seq rfl ?_
            refine HW_text (.act 0 (.pure 1 .done)) (by kernel_rfl) ?_
            refine a_call rfl rfl rfl go8 (law_alive _) fun v w hR => ?_
            obtain ⟨rfl, hE⟩ := hR
            refine ⟨trivial, ?_⟩
            replace hm := hm.ext hE
            refine rw_p rfl rfl (y_assign rfl) ?_
            refine rw_done ?_
            refine gn_sq ?_
            refine HW_ret rfl ?_
            refine toR (fin hret rfl (.tmp rfl .nil) .one ?_)
            exact ⟨rfl, hm.to⟩

end Go.Proofs.Ythokcfkcamcapaa
