/- Contracts of functions of the program: what each returns. Conditions: the hypotheses of each theorem. -/
import Derived.Test.YtkllojjpaelmhaaLaw
import Derived.Test.YtkllojjpaelmhaaPlX
set_option linter.unusedVariables false
set_option linter.unusedSimpArgs false
namespace Go.Proofs.Ytkllojjpaelmhaa
open Go Go.Cx

theorem ag29 : aggS Try.prog 29 = some 3 := by kernel_rfl
theorem fo47_0 : fldO Try.prog 47 0 = some 0 := by kernel_rfl
theorem fo47_1 : fldO Try.prog 47 1 = some 1 := by kernel_rfl
theorem fo47_2 : fldO Try.prog 47 2 = some 2 := by kernel_rfl
theorem fv23_1 : fldV Try.prog 23 1 = some (1, 1, false) := by kernel_rfl
theorem go11 : isGo Try.prog 11 = true := by kernel_rfl
theorem go18 : isGo Try.prog 18 = true := by kernel_rfl
theorem go23 : isGo Try.prog 23 = true := by kernel_rfl
theorem pb31 : ptrB Try.prog 31 = true := by kernel_rfl

set_option maxHeartbeats 3200000 in
theorem law_inverse (u1 u2 : Int) (pb : Option Addr) (cb : Nat) (bs : List UInt8) (x : Int) (p1 : Option Addr) (c1 : Nat) (b1 : List UInt8) (p2 : Option Addr) (c2 : Nat) (b2 : List UInt8) (w0 : World) (hbk : SB.ok w0 ⟨pb, cb, bs⟩) (hu1 : Pl.I64 u1) (hu2 : Pl.I64 u2) (hx : Pl.I64 x) (hb1 : SB.ok w0 ⟨p1, c1, b1⟩) (hb2 : SB.ok w0 ⟨p2, c2, b2⟩) : C Try.prog 5 [.agg ⟨[.int .i64 u1, .int .i64 u2, .slice pb bs.length cb]⟩, .agg ⟨[.int .i64 x, .slice p1 b1.length c1, .slice p2 b2.length c2]⟩] w0 fun v w' => v = .bool true ∧ Ext No w0 w' := by
  simp only [Pl.I64] at hu1 hu2
  have hbl := hbk.le
  have hbm := hbk.max
  simp only at hbl hbm
  have h1l := hb1.le
  have h1m := hb1.max
  have h2l := hb2.le
  have h2m := hb2.max
  simp only at h1l h1m h2l h2m
  obtain ⟨BB, hBB⟩ : ∃ BB, b1 ++ b2 = BB := ⟨_, rfl⟩
  have hBl : BB.length = b1.length + b2.length := by rw [← hBB, List.length_append]
  refine C_of Try.func5 rfl rfl rfl fun κ hret hnorm => ?_
  have hm := Mem.start w0
  refine HW_seq rfl ?_
  refine HW_text (.act 0 (.act 1 (.pure 2 .done))) (by kernel_rfl) ?_
  refine a_box rfl rfl rfl rfl hm trivial fun m1 w hg_m1 hm hh => ?_
  refine a_box rfl rfl rfl rfl hm trivial fun m2 w hg_m2 hm hh => ?_
  refine rw_p rfl rfl (y_assign rfl) ?_
  refine rw_done ?_
  refine gn_sq ?_
  refine HW_seq rfl ?_
  by_cases hmk : Pl.right u1 u2 bs.length = true ∧ u1 * u2 ≤ 2000
  ·
    obtain ⟨hrt, h2k⟩ := hmk
    obtain ⟨h1, h2, h3, h4⟩ := Pl.right_of hrt
    obtain ⟨a, rfl⟩ : ∃ a : Nat, u1 = a := ⟨u1.toNat, by omega⟩
    obtain ⟨c, rfl⟩ : ∃ c : Nat, u2 = c := ⟨u2.toNat, by omega⟩
    have hac : (a : Int) * (c : Int) = ((c * a : Nat) : Int) := by rw [Nat.mul_comm]; norm_cast
    rw [hac] at h2k h3 h4
    have hca : 1 ≤ c * a := Nat.mul_pos (by omega) (by omega)
    have ha9 : a ≤ c * a := Nat.le_mul_of_pos_left _ (by omega)
    have hc9 : c ≤ c * a := Nat.le_mul_of_pos_right _ (by omega)
    have hMM : IntKind.i64.wrap ((a : Int) * (c : Int)) = ((c * a : Nat) : Int) := by rw [hac]; exact i64w (by omega) (by omega)
    refine HW_text (.pure 0 (.act 1 (.pure 2 (.pure 3 (.pure 4 (.pure 5 (.pure 6 .done))))))) (by kernel_rfl) ?_
    refine rw_p rfl rfl (y_loadA (s := 3) (vs := [_, _, _]) rfl ag29 (hm.nt 1 rfl) rfl) ?_
    refine a_call rfl rfl rfl go11 (mk_ok a c pb cb bs _ (hbk.ext hm.to) hrt (by omega)) fun v w hR => ?_
    obtain ⟨m, mr, Zw, Zr, rfl, hz, hy, hmc⟩ := hR
    refine ⟨trivial, ?_⟩
    replace hm := hm.callTZ hmc
    refine rw_p rfl rfl (y_move rfl) ?_
    refine rw_p rfl rfl (y_extract rfl rfl) ?_
    refine rw_p rfl rfl (y_extract rfl rfl) ?_
    refine rw_p rfl rfl (y_assign rfl) ?_
    refine rw_p rfl rfl (y_assign rfl) ?_
    refine rw_done ?_
    refine gn_sq ?_
    refine HW_seq rfl ?_
    refine HW_seq rfl ?_
    refine HW_text (.pure 0 (.pure 1 (.pure 2 (.pure 3 (.pure 4 (.pure 5 (.pure 6 (.pure 7 (.pure 8 (.pure 9 (.pure 10 (.pure 11 (.pure 12 (.pure 13 .done)))))))))))))) (by kernel_rfl) ?_
    refine rw_p rfl rfl (y_move rfl) ?_
    refine rw_p rfl rfl (y_pnil rfl rfl pb31) ?_
    refine rw_p rfl rfl (y_move rfl) ?_
    refine rw_p rfl rfl (y_fieldAddr rfl fo47_1) ?_
    refine rw_p rfl rfl (y_load rfl sc27 (hm.nt 0 rfl) rfl) ?_
    refine rw_p rfl rfl (y_len rfl rfl sl27) ?_
    refine rw_p rfl rfl (y_gt rfl rfl) ?_
    refine rw_p rfl rfl (y_pickF rfl rfl) ?_
    refine rw_p rfl rfl (y_move rfl) ?_
    refine rw_g rfl rfl rfl (fun hc => (y_fieldAddr rfl fo47_2)) ?_
    refine rw_g rfl rfl rfl (fun hc => (y_load (gx hc rfl) sc27 (hm.nt 0 rfl) rfl)) ?_
    refine rw_g rfl rfl rfl (fun hc => (y_len (gx hc rfl) rfl sl27)) ?_
    refine rw_g rfl rfl rfl (fun hc => (y_gt (gx hc rfl) rfl)) ?_
    refine rw_p rfl rfl (y_or rfl rfl rfl) ?_
    refine rw_done ?_
    refine gn_sq ?_
    refine HW_cond rfl rfl (fun hc0 => ?_) (fun hc0 => ?_)
    ·
      refine HW_seq rfl ?_
      refine HW_text (.act 0 (.pure 1 .done)) (by kernel_rfl) ?_
      refine a_call rfl rfl rfl go8 (law_alive _) fun v w hR => ?_
      obtain ⟨rfl, hE⟩ := hR
      refine ⟨trivial, ?_⟩
      replace hm := hm.ext hE
      refine rw_p rfl rfl (y_assign rfl) ?_
      refine rw_done ?_
      refine gn_sq ?_
      refine HW_ret rfl ?_
      refine gr_sq ?_
      refine toR (fin hret rfl (.tmp rfl .nil) .one ?_)
      exact ⟨rfl, hm.to⟩
    ·
      simp only [Bool.or_eq_false_iff, decide_eq_false_iff_not] at hc0
      obtain ⟨hs1, hs2⟩ := hc0
      refine HW_skip rfl ?_
      refine gn_sq ?_
      refine HW_seq rfl ?_
      refine HW_seq rfl ?_
      refine HW_text (.pure 0 (.pure 1 .done)) (by kernel_rfl) ?_
      refine rw_p rfl rfl (y_move rfl) ?_
      refine rw_p rfl rfl (y_pnil rfl rfl pb30) ?_
      refine rw_done ?_
      refine gn_sq ?_
      refine HW_condF rfl rfl rfl ?_
      refine HW_skip rfl ?_
      refine gn_sq ?_
      refine HW_seq rfl ?_
      refine HW_draw (.pure 1 (.pure 2 (.pure 4 (.pure 5 (.act 0 (.act 3 (.cut (.act 6 (.pure 7 .done))))))))) No mix (by kernel_rfl) hm fun w hw hm0 hh => ?_
      have hm := hm0
      refine rw_p rfl rfl (y_fieldAddr rfl fo47_1) ?_
      refine rw_p rfl rfl (y_load rfl sc27 (hm0.nd 0 rfl id) rfl) ?_
      refine rw_p rfl rfl (y_fieldAddr rfl fo47_2) ?_
      refine rw_p rfl rfl (y_load rfl sc27 (hm0.nd 0 rfl id) rfl) ?_
      refine a_buildSlice (l := []) rfl rfl sl27 z5 rfl rfl rfl rfl rfl rfl rfl hm hh fun m3 w hg_m3 hm hh => ?_
      refine a_appendN rfl rfl rfl rfl rfl rfl sl27 sl27 z5 rfl (oneB b1) (hb1.rd.ext0 hm.to) (lenB b1) (Acc.row rfl) hm 0 rfl (by omega) (by omega) hh (fun _ => .inl hg_m3) fun p_k cap_k g_k b_k w _ ha_k hm hh hg_k => ?_
      rw [Nat.zero_add b1.length] at ha_k ⊢
      replace ha_k := ha_k.to (show _ = b1.flatMap encB from List.nil_append _)
      refine a_cut ?_
      refine a_append rfl rfl rfl rfl rfl rfl sl27 sl27 z5 rfl (oneB b2) (hb2.rd.ext0 hm.to) (lenB b2) ha_k hm 0 rfl (by omega) (by omega) fun p_k cap_k g_k b_k w ha_k hm => ?_
      replace ha_k := ha_k.to (show _ = BB.flatMap encB by rw [← hBB, List.flatMap_append])
      have hnk : b1.length + b2.length = BB.length := by rw [← hBB, List.length_append]
      rw [hnk] at ha_k ⊢
      have hkle := ha_k.le
      refine rw_p rfl rfl (y_assign rfl) ?_
      refine rw_done ?_
      refine gn_sq ?_
      refine HW_seq rfl ?_
      refine HW_text (.pure 0 (.pure 1 (.pure 2 (.pure 3 (.pure 4 (.act 5 (.act 6 .done))))))) (by kernel_rfl) ?_
      refine rw_p rfl rfl (y_fieldAddr rfl fo47_0) ?_
      refine rw_p rfl rfl (y_load rfl sc3 (hm.nt 1 rfl) rfl) ?_
      refine rw_p rfl rfl (y_move rfl) ?_
      refine rw_p rfl rfl (y_len rfl rfl sl27) ?_
      refine rw_p rfl rfl (y_build (cs := [_, _]) z23 ft23 rfl rfl rfl rfl rfl) ?_
      refine a_alloc rfl rfl z23 hm trivial fun m4 w hg_m4 hm hh => ?_
      refine a_store rfl rfl rfl rfl sz23 rfl hm 0 rfl rfl fun w hm => ?_
      refine rw_done ?_
      refine gn_sq ?_
      refine HW_seq rfl ?_
      refine HW_seq rfl ?_
      refine HW_text (.pure 0 (.pure 1 (.act 2 (.pure 3 .done)))) (by kernel_rfl) ?_
      refine rw_p rfl rfl (y_move rfl) ?_
      refine rw_p rfl rfl (y_loadA (s := 2) (vs := [_, _]) rfl ag23 (hm.nt 0 rfl) rfl) ?_
      refine a_call rfl rfl rfl go19 (r20_on (Pl.nDv a c bs) mr _ _ (OwnZ.end (A := [_, _, _, _]) hm.ownZ) hy x (BB.length : Int) hx (by simp only [Pl.I64]; omega)) fun v w hR => ?_
      obtain ⟨rfl, hE⟩ := hR
      refine ⟨trivial, ?_⟩
      replace hm := hm.ext hE
      refine rw_p rfl rfl (y_not rfl) ?_
      refine rw_done ?_
      refine gn_sq ?_
      refine HW_cond rfl rfl (fun hc2 => ?_) (fun hc2 => ?_)
      ·
        refine HW_seq rfl ?_
        refine HW_text (.act 0 (.pure 1 .done)) (by kernel_rfl) ?_
        refine a_call rfl rfl rfl go8 (law_alive _) fun v w hR => ?_
        obtain ⟨rfl, hE⟩ := hR
        refine ⟨trivial, ?_⟩
        replace hm := hm.ext hE
        refine rw_p rfl rfl (y_assign rfl) ?_
        refine rw_done ?_
        refine gn_sq ?_
        refine HW_ret rfl ?_
        refine gr_sq ?_
        refine toR (fin hret rfl (.tmp rfl .nil) .one ?_)
        exact ⟨rfl, hm.to⟩
      ·
        simp only [Bool.not_eq_false'] at hc2
        have hv := Pl.onD_iff.1 hc2
        obtain ⟨xn, rfl⟩ : ∃ xn : Nat, x = xn := ⟨x.toNat, by omega⟩
        have hab9 : (xn : Int) + (BB.length : Int) ≤ ((c * a : Nat) : Int) := hv.2.2.2
        obtain ⟨u1_, u2_, u3_, u4_, u5_, u6_, u7_, u8_, u9_⟩ := Pl.wrAll_up (D := (Pl.nDv a c bs)) hz.ok rfl (show (-1 : Int) < 0 by decide) hc2 (show 0 + c ≤ 1000000000 by omega) (show (0 : Int) ≤ 0 by decide) (show (0 : Int) + (c : Int) ≤ 4611686018427387903 by omega)
        refine HW_skip rfl ?_
        refine gn_sq ?_
        refine HW_seq rfl ?_
        refine HW_seq rfl ?_
        refine HW_text (.pure 0 (.pure 1 (.pure 2 (.pure 3 (.act 4 (.act 5 (.pure 6 .done))))))) (by kernel_rfl) ?_
        refine rw_p rfl rfl (y_move rfl) ?_
        refine rw_p rfl rfl (y_fieldAddr rfl fo47_0) ?_
        refine rw_p rfl rfl (y_load rfl sc3 (hm.nt 2 rfl) rfl) ?_
        refine rw_p rfl rfl (y_move rfl) ?_
        refine a_buildSlice (l := [_]) rfl rfl sl96 z27 rfl rfl rfl rfl rfl rfl rfl hm trivial fun m5 w hg_m5 hm hh => ?_
        refine a_call rfl rfl rfl go20 (f_writeA (Pl.nDv a c bs) m _ _ (OwnZ.mid (A := [_, _, _, _, _]) hm.ownZ) hz xn _ 1 [⟨p_k, cap_k, BB⟩] BB hx (Rd.row0 (hm.get (k := 0) rfl)) (fun s hs => by rw [List.mem_singleton.1 hs]; exact ha_k.rd hm 2 rfl) (by simp) (by simp) (by omega) (show 0 + c ≤ 1000000000 by omega)) fun v w hR => ?_
        obtain ⟨rfl, Zw, hz, hmc⟩ := hR
        refine ⟨trivial, ?_⟩
        replace hm := Mem.callM (A := [_, _, _, _, _]) hm hmc
        obtain ⟨R9, hR9⟩ : ∃ R9, Pl.wrAll (Pl.nDv a c bs) (xn : Int) BB = R9 := ⟨_, rfl⟩
        rw [hR9] at hz u1_ u2_ u3_ u4_ u5_ u6_ u7_ u8_ u9_ ⊢
        obtain ⟨c9, D9⟩ := R9
        simp only at hz u1_ u2_ u3_ u4_ u5_ u6_ u7_ u8_ u9_ ⊢
        subst u1_
        have e5 : D9.sz = a := u5_
        have e6 : D9.cnt = c := u6_
        obtain ⟨rb1, rb2⟩ := Pl.rd_back hc2 u5_ u6_ u2_ u9_
        obtain ⟨ra1, ra2⟩ := Pl.rd_all u7_ u2_ (n := c * a) (by rw [e5, e6])
        have hcl9 := Pl.contents_len u7_
        rw [e5, e6] at hcl9
        have hdl : ((Pl.nDv a c bs)).dk.length = c * a := Pl.new_len (by omega)
        refine rw_p rfl rfl (y_as (c := false) (y_ne rfl rfl) (by decide)) ?_
        refine rw_done ?_
        refine gn_sq ?_
        refine HW_condF rfl rfl rfl ?_
        refine HW_skip rfl ?_
        refine gn_sq ?_
        refine HW_seq rfl ?_
        refine HW_text (.pure 0 (.pure 1 (.act 2 (.pure 3 (.pure 4 (.pure 5 (.pure 6 (.pure 7 .done)))))))) (by kernel_rfl) ?_
        refine rw_p rfl rfl (y_move rfl) ?_
        refine rw_p rfl rfl (y_loadA (s := 2) (vs := [_, _]) rfl ag23 (hm.nt 1 rfl) rfl) ?_
        refine a_call rfl rfl rfl go16 (f_readA D9 m _ _ (OwnZ.mid (A := [_, _, _, _, _]) hm.ownZ) hz xn (BB.length : Int) hx (by simp only [Pl.I64]; omega)) fun v w hR => ?_
        obtain ⟨p_s, cap_s, g_s, b_s, rfl, ha_s, hmc⟩ := hR
        refine ⟨trivial, ?_⟩
        have hg_s : b_s.real = true → _ := fun hr => (hmc.fresh _ List.mem_cons_self hr).resolve_left id
        replace hm := hm.callN hmc
        rw [rb2] at ha_s ⊢
        rw [rb1]
        refine rw_p rfl rfl (y_move rfl) ?_
        refine rw_p rfl rfl (y_extract rfl rfl) ?_
        refine rw_p rfl rfl (y_extract rfl rfl) ?_
        refine rw_p rfl rfl (y_assign rfl) ?_
        refine rw_p rfl rfl (y_assign rfl) ?_
        refine rw_done ?_
        refine gn_sq ?_
        refine HW_seq rfl ?_
        refine HW_text (.pure 0 (.pure 1 (.pure 2 (.pure 3 (.pure 4 (.pure 5 (.pure 6 (.act 7 (.pure 8 (.pure 9 (.pure 10 (.pure 11 (.pure 12 .done))))))))))))) (by kernel_rfl) ?_
        refine rw_p rfl rfl (y_move rfl) ?_
        refine rw_p rfl rfl (y_fieldAddr rfl fo29_0) ?_
        refine rw_p rfl rfl (y_load rfl sc3 (hm.nt 5 rfl) rfl) ?_
        refine rw_p rfl rfl (y_fieldAddr rfl fo29_1) ?_
        refine rw_p rfl rfl (y_load rfl sc3 (hm.nt 5 rfl) rfl) ?_
        refine rw_p rfl rfl (y_mul rfl rfl hMM) ?_
        refine rw_p rfl rfl (y_build (cs := [_, _]) z23 ft23 rfl rfl rfl rfl rfl) ?_
        refine a_call rfl rfl rfl go16 (f_readA D9 m _ _ (OwnZ.mid (A := [_, _, _, _, _, _]) hm.ownZ) hz 0 ((c * a : Nat) : Int) (by decide) (by simp only [Pl.I64]; omega)) fun v w hR => ?_
        obtain ⟨p_u, cap_u, g_u, b_u, rfl, ha_u, hmc⟩ := hR
        refine ⟨trivial, ?_⟩
        have hg_u : b_u.real = true → _ := fun hr => (hmc.fresh _ List.mem_cons_self hr).resolve_left id
        replace hm := hm.callN hmc
        rw [ra2] at ha_u ⊢
        rw [ra1]
        refine rw_p rfl rfl (y_move rfl) ?_
        refine rw_p rfl rfl (y_extract rfl rfl) ?_
        refine rw_p rfl rfl (y_extract rfl rfl) ?_
        refine rw_p rfl rfl (y_assign rfl) ?_
        refine rw_p rfl rfl (y_assign rfl) ?_
        refine rw_done ?_
        refine gn_sq ?_
        refine HW_seq rfl ?_
        refine HW_seq rfl ?_
        refine HW_text (.pure 0 (.pure 1 (.pure 2 (.pure 3 (.pure 4 (.pure 5 (.pure 6 (.pure 7 (.pure 8 (.act 9 (.pure 10 (.pure 11 (.pure 12 (.pure 13 (.pure 14 (.pure 15 (.pure 16 (.pure 17 (.pure 18 (.pure 19 (.pure 20 (.pure 21 .done)))))))))))))))))))))) (by kernel_rfl) ?_
        refine rw_p rfl rfl (y_move rfl) ?_
        refine rw_p rfl rfl (y_as (c := false) (y_ne rfl rfl) (by decide)) ?_
        refine rw_p rfl rfl (y_move rfl) ?_
        refine rw_p rfl rfl (y_move rfl) ?_
        refine rw_p rfl rfl (y_as (c := false) (y_ne rfl rfl) (by decide)) ?_
        refine rw_p rfl rfl (y_pickF rfl rfl) ?_
        refine rw_p rfl rfl (y_move rfl) ?_
        refine rw_p rfl rfl (y_move rfl) ?_
        refine rw_p rfl rfl (y_move rfl) ?_
        refine a_call rfl rfl rfl go18 (C.as (v := .bool true) (eq_b p_s p_k cap_s cap_k BB BB _ (ha_s.rd hm 1 rfl) (ha_k.rd hm 4 rfl) (by omega) (by omega)) (congrArg Value.bool (decide_eq_true rfl))) fun v w hR => ?_
        obtain ⟨rfl, hE⟩ := hR
        refine ⟨trivial, ?_⟩
        replace hm := hm.ext hE
        obtain ⟨qB_, kB_, qC_, kC_, sC_, hPy, hd9, hp9, hw9⟩ := hy.row (OwnZ.end (A := [_, _, _, _, _, _, _]) hm.ownZ)
        refine rw_p rfl rfl (y_not rfl) ?_
        refine rw_p rfl rfl (y_pickF rfl rfl) ?_
        refine rw_p rfl rfl (y_move rfl) ?_
        refine rw_p rfl rfl (y_move rfl) ?_
        refine rw_p rfl rfl (y_len rfl rfl sl27) ?_
        refine rw_p rfl rfl (y_move rfl) ?_
        refine rw_p rfl rfl (y_nil rfl) ?_
        refine rw_p rfl rfl (y_fieldAddr rfl fo52_2) ?_
        refine rw_p rfl rfl (y_load rfl sc27 (nowT hPy) rfl) ?_
        refine rw_p rfl rfl (y_len rfl rfl sl27) ?_
        refine rw_p rfl rfl (y_as (c := false) (y_ne rfl rfl) (decide_eq_false (by rw [hcl9, hdl]; exact fun h => h rfl))) ?_
        refine rw_p rfl rfl (y_pickF rfl rfl) ?_
        refine rw_done ?_
        refine gn_sq ?_
        refine HW_condF rfl rfl rfl ?_
        refine HW_skip rfl ?_
        refine gn_sq ?_
        refine HW_seq rfl ?_
        refine HW_seq rfl ?_
        refine HW_text (.pure 0 (.pure 1 (.pure 2 .done))) (by kernel_rfl) ?_
        refine rw_p rfl rfl (y_move rfl) ?_
        refine rw_p rfl rfl (y_len rfl rfl sl27) ?_
        refine rw_p rfl rfl (y_move rfl) ?_
        refine rw_done ?_
        refine gn_sq ?_
        refine HW_block rfl ?_
        refine HW_loopK (ι := Nat) rfl (ks := [2, 5, 6, 8, 100, 101]) (.cons rfl (.cons rfl (.cons rfl (.cons rfl (.cons rfl (.cons rfl .nil)))))) (fun y => [(102, .int .i64 y)]) (fun y w => Mem w0 w No ((g_u, b_u) :: (m4, .row 23 [.int .i64 (xn : Int), .int .i64 (BB.length : Int)]) :: (m1, .row 29 [.int .i64 (a : Int), .int .i64 (c : Int), .slice pb bs.length cb]) :: (Zw ++ Zr)) ∧ y ≤ c * a) (fun y => c * a - y) 0 (⟨(hm.pickT [0, 3, 6] 7 rfl), Nat.zero_le _⟩) ⟨rfl, trivial⟩ (fun y w hM => ?_)
        obtain ⟨hm, hk9⟩ := hM
        refine HW_seq rfl ?_
        refine HW_text (.pure 0 .done) (by kernel_rfl) ?_
        refine rw_p rfl rfl (y_lt rfl rfl) ?_
        refine rw_done ?_
        refine gn_sq ?_
        refine HW_seq rfl ?_
        refine HW_cond rfl rfl (fun hc5 => ?_) (fun hc5 => ?_)
        ·
          simp only [hcl9, decide_eq_true_eq] at hc5
          obtain ⟨d9, hi9⟩ : ∃ y_, (Pl.contents D9)[y]? = some y_ := ⟨_, List.getElem?_eq_getElem (by omega)⟩
          obtain ⟨b3_, o3_, hpu⟩ := (ha_u.rd hm 0 rfl).atI encB_len (by decide) hi9
          refine HW_skip rfl ?_
          refine gn_sq ?_
          refine HW_seq rfl ?_
          refine HW_block rfl ?_
          refine HW_seq rfl ?_
          refine HW_text (.pure 0 (.pure 1 (.pure 2 (.pure 3 (.pure 4 .done))))) (by kernel_rfl) ?_
          refine rw_p rfl rfl (y_move rfl) ?_
          refine rw_p rfl rfl (y_index rfl rfl sl27 hpu (by omega) (by omega)) ?_
          refine rw_p rfl rfl (y_el1 rfl sc5 (hpu ▸ ha_u.rd hm 0 rfl).nt encB_len hi9 rfl) ?_
          refine rw_p rfl rfl (y_assign rfl) ?_
          refine rw_p rfl rfl (y_assign rfl) ?_
          refine rw_done ?_
          refine gn_sq ?_
          refine HW_seq rfl ?_
          by_cases hh9 : xn ≤ y ∧ y < xn + BB.length
          ·
            refine HW_text (.pure 0 (.pure 1 (.act 2 (.pure 3 (.pure 4 (.pure 5 (.pure 6 (.pure 7 (.pure 8 (.pure 9 (.pure 10 (.pure 11 (.pure 12 (.pure 13 (.pure 14 .done))))))))))))))) (by kernel_rfl) ?_
            refine rw_p rfl rfl (y_loadA (s := 2) (vs := [_, _]) rfl ag23 (hm.nt 1 rfl) rfl) ?_
            refine rw_p rfl rfl (y_move rfl) ?_
            refine a_call rfl rfl rfl go21 (C.as (v := .bool true) (r1_has (xn : Int) (BB.length : Int) (y : Int) _ (by simp only [Pl.I64]; omega)) (by rw [decide_eq_true (by omega)])) fun v w hR => ?_
            obtain ⟨rfl, hE⟩ := hR
            refine ⟨trivial, ?_⟩
            replace hm := hm.ext hE
            refine rw_p rfl rfl (y_not rfl) ?_
            refine rw_p rfl rfl (y_move rfl) ?_
            refine rw_gf rfl rfl (by decide) rfl ?_
            refine rw_gf rfl rfl (by decide) rfl ?_
            refine rw_gf rfl rfl (by decide) rfl ?_
            refine rw_gf rfl rfl (by decide) rfl ?_
            refine rw_gf rfl rfl (by decide) rfl ?_
            refine rw_gf rfl rfl (by decide) rfl ?_
            refine rw_gf rfl rfl (by decide) rfl ?_
            refine rw_gf rfl rfl (by decide) rfl ?_
            refine rw_gf rfl rfl (by decide) rfl ?_
            refine rw_p rfl rfl (y_pickF rfl rfl) ?_
            refine rw_done ?_
            refine gn_sq ?_
            refine HW_condF rfl rfl rfl ?_
            refine HW_skip rfl ?_
            refine gn_bl ?_
            refine gn_sq ?_
            refine HW_text (.pure 0 (.pure 1 .done)) (by kernel_rfl) ?_
            refine rw_p rfl rfl (y_add rfl rfl (i64w (by omega) (by omega))) ?_
            refine rw_p rfl rfl (y_move rfl) ?_
            refine rw_done ?_
            refine next (y + 1) (by omega) ⟨(hm.pickT [0, 1, 2] 3 rfl), by omega⟩ ⟨nx y, rfl, rfl, rfl, rfl, rfl, rfl, trivial⟩
          ·
            have hi8 : ((Pl.nDv a c bs)).dk[y]? = some d9 := by rw [← hi9, u9_, if_neg hh9]; rfl
            refine HW_text (.pure 0 (.pure 1 (.act 2 (.pure 3 (.pure 4 (.pure 5 (.pure 6 (.pure 7 (.pure 8 (.pure 9 (.pure 10 (.pure 11 (.pure 12 (.pure 13 (.pure 14 .done))))))))))))))) (by kernel_rfl) ?_
            refine rw_p rfl rfl (y_loadA (s := 2) (vs := [_, _]) rfl ag23 (hm.nt 1 rfl) rfl) ?_
            refine rw_p rfl rfl (y_move rfl) ?_
            refine a_call rfl rfl rfl go21 (C.as (v := .bool false) (r1_has (xn : Int) (BB.length : Int) (y : Int) _ (by simp only [Pl.I64]; omega)) (by rw [decide_eq_false (by omega)])) fun v w hR => ?_
            obtain ⟨rfl, hE⟩ := hR
            refine ⟨trivial, ?_⟩
            replace hm := hm.ext hE
            obtain ⟨qB_, kB_, qC_, kC_, sC_, hPy, hd9, hp9, hw9⟩ := hy.row (OwnZ.end (A := [_, _, _]) hm.ownZ)
            obtain ⟨b2_, o2_, hqD⟩ := (hd9.rd (hm.pickT [] 3 rfl) (fun e he => show e ∈ Zw ++ Zr from List.mem_append_right _ he)).atI encB_len (by decide) hi8
            refine rw_p rfl rfl (y_not rfl) ?_
            refine rw_p rfl rfl (y_move rfl) ?_
            refine rw_p rfl rfl (y_move rfl) ?_
            refine rw_p rfl rfl (y_move rfl) ?_
            refine rw_p rfl rfl (y_nil rfl) ?_
            refine rw_p rfl rfl (y_fieldAddr rfl fo52_2) ?_
            refine rw_p rfl rfl (y_load rfl sc27 (nowT hPy) rfl) ?_
            refine rw_p rfl rfl (y_move rfl) ?_
            refine rw_p rfl rfl (y_index rfl rfl sl27 hqD (by omega) (by omega)) ?_
            refine rw_p rfl rfl (y_el1 rfl sc5 (hqD ▸ hd9.rd hm (fun e he => by simp [he])).nt encB_len hi8 rfl) ?_
            refine rw_p rfl rfl (y_as (c := false) (y_ne rfl rfl) (decide_eq_false (fun h => h rfl))) ?_
            refine rw_p rfl rfl (y_pickT rfl rfl) ?_
            refine rw_done ?_
            refine gn_sq ?_
            refine HW_condF rfl rfl rfl ?_
            refine HW_skip rfl ?_
            refine gn_bl ?_
            refine gn_sq ?_
            refine HW_text (.pure 0 (.pure 1 .done)) (by kernel_rfl) ?_
            refine rw_p rfl rfl (y_add rfl rfl (i64w (by omega) (by omega))) ?_
            refine rw_p rfl rfl (y_move rfl) ?_
            refine rw_done ?_
            refine next (y + 1) (by omega) ⟨(hm.pickT [0, 1, 2] 3 rfl), by omega⟩ ⟨nx y, rfl, rfl, rfl, rfl, rfl, rfl, trivial⟩
        ·
          refine HW_exit rfl ?_
          refine gx_sq (gx_lp ?_)
          refine gx_here ?_
          refine gn_sq ?_
          refine HW_seq rfl ?_
          refine HW_draw (.act 0 (.pure 1 (.pure 2 (.pure 5 (.pure 6 (.pure 7 (.act 3 (.pure 4 (.act 8 (.pure 9 (.pure 10 (.pure 11 (.pure 12 (.pure 13 (.pure 15 (.pure 16 (.pure 17 (.pure 18 (.act 14 (.cut (.act 19 (.pure 20 (.pure 21 .done))))))))))))))))))))))) No mix (by kernel_rfl) hm fun w hw hm0 hh => ?_
          have hm := hm0
          obtain ⟨qB_, kB_, qC_, kC_, cs, hPy, hd9, hp9, hw9⟩ := hy.row (OwnZ.end (A := [_, _, _]) hm.ownZ)
          have hl9 : D9.dk.length ≤ 1048576 := by rw [hz.ok.len]; exact hz.ok.max
          refine a_call rfl rfl rfl go8 (law_alive _) fun v w hR => ?_
          obtain ⟨rfl, hE⟩ := hR
          refine ⟨hh.ext hE, ?_⟩
          replace hm := hm.ext hE
          replace hh := hh.ext hE
          refine rw_p rfl rfl (y_move rfl) ?_
          refine rw_p rfl rfl (y_move rfl) ?_
          refine rw_p rfl rfl (y_fieldAddr rfl fo29_0) ?_
          refine rw_p rfl rfl (y_load rfl sc3 (hm0.nd 2 rfl id) rfl) ?_
          refine rw_p rfl rfl (y_loadA (s := 2) (vs := [_, _]) rfl ag23 (hm0.nd 1 rfl id) rfl) ?_
          refine a_call rfl rfl rfl go22 (o_stats D9 m _ _ (OwnZ.mid (A := [_, _, _]) hm.ownZ) hz) fun v w hR => ?_
          obtain ⟨rfl, hE⟩ := hR
          refine ⟨hh.ext hE, ?_⟩
          replace hm := hm.ext hE
          replace hh := hh.ext hE
          refine rw_p rfl rfl (y_fieldV rfl fv55_0 rfl) ?_
          refine a_call rfl rfl rfl go10 (C.as (v := .agg ⟨[.int .i64 ((Pl.sF a xn BB.length : Nat) : Int), .int .i64 ((Pl.sN a xn BB.length : Nat) : Int)]⟩) (r20_secs (a : Int) (xn : Int) (BB.length : Int) _ (by simp only [Pl.I64]; omega) hx (by simp only [Pl.I64]; omega)) (by rw [Pl.secs_nat (by omega) (by omega)]; rfl)) fun v w hR => ?_
          obtain ⟨rfl, hE⟩ := hR
          refine ⟨hh.ext hE, ?_⟩
          replace hm := hm.ext hE
          replace hh := hh.ext hE
          refine rw_p rfl rfl (y_fieldV rfl fv23_1 rfl) ?_
          refine rw_p rfl rfl (y_as (c := true) (y_eq rfl rfl) (decide_eq_true (by rw [u4_]; exact Int.zero_add _))) ?_
          refine rw_p rfl rfl (y_pickT rfl rfl) ?_
          refine rw_p rfl rfl (y_move rfl) ?_
          refine rw_p rfl rfl (y_move rfl) ?_
          refine rw_p rfl rfl (y_move rfl) ?_
          refine rw_p rfl rfl (y_nil rfl) ?_
          refine rw_p rfl rfl (y_fieldAddr rfl fo52_2) ?_
          refine rw_p rfl rfl (y_load rfl sc27 (fun u hu => (Ext.same hu _ (Array.getElem?_eq_some_iff.1 hPy).1 id).trans hPy) rfl) ?_
          refine a_call rfl rfl rfl go23 (o_disk D9 m _ _ (OwnZ.mid (A := [_, _, _]) hm.ownZ) hz) fun v w hR => ?_
          obtain ⟨p_v, cap_v, g_v, b_v, rfl, ha_v, hmc⟩ := hR
          refine ⟨hh.ext hmc.to, ?_⟩
          have hg_v : b_v.real = true → _ := fun hr => (hmc.fresh _ List.mem_cons_self hr).resolve_left id
          replace hh := hh.ext hmc.to
          replace hm := hm.callN hmc
          refine a_cut ?_
          refine a_call rfl rfl rfl go18 (C.as (v := .bool true) (eq_b p_v qB_ cap_v kB_ D9.dk ((Pl.nDv a c bs)).dk _ (ha_v.rd hm 0 rfl) (hd9.rd (hm.pickT [] 4 rfl) (fun e he => show e ∈ Zw ++ Zr from List.mem_append_right _ he)) (by omega) (by omega)) (congrArg Value.bool (decide_eq_true u3_))) fun v w hR => ?_
          obtain ⟨rfl, hE⟩ := hR
          refine ⟨trivial, ?_⟩
          replace hm := hm.ext hE
          refine rw_p rfl rfl (y_pickT rfl rfl) ?_
          refine rw_p rfl rfl (y_assign rfl) ?_
          refine rw_done ?_
          refine gn_sq ?_
          refine HW_ret rfl ?_
          refine toR (fin hret rfl (.tmp rfl .nil) .one ?_)
          exact ⟨rfl, hm.to⟩
  ·
    refine HW_text (.pure 0 (.act 1 (.pure 2 (.pure 3 (.pure 4 (.pure 5 (.pure 6 .done))))))) (by kernel_rfl) ?_
    refine rw_p rfl rfl (y_loadA (s := 3) (vs := [_, _, _]) rfl ag29 (hm.nt 1 rfl) rfl) ?_
    refine a_call rfl rfl rfl go11 (mk_bad u1 u2 pb cb bs _ (hbk.ext hm.to) hu1 hu2 hmk) fun v w hR => ?_
    obtain ⟨rfl, hE⟩ := hR
    refine ⟨trivial, ?_⟩
    replace hm := hm.ext hE
    refine rw_p rfl rfl (y_move rfl) ?_
    refine rw_p rfl rfl (y_extract rfl rfl) ?_
    refine rw_p rfl rfl (y_extract rfl rfl) ?_
    refine rw_p rfl rfl (y_assign rfl) ?_
    refine rw_p rfl rfl (y_assign rfl) ?_
    refine rw_done ?_
    refine gn_sq ?_
    refine HW_seq rfl ?_
    refine HW_seq rfl ?_
    refine HW_text (.pure 0 (.pure 1 (.pure 2 (.pure 3 (.pure 4 (.pure 5 (.pure 6 (.pure 7 (.pure 8 (.pure 9 (.pure 10 (.pure 11 (.pure 12 (.pure 13 .done)))))))))))))) (by kernel_rfl) ?_
    refine rw_p rfl rfl (y_move rfl) ?_
    refine rw_p rfl rfl (y_pnil rfl rfl pb31) ?_
    refine rw_p rfl rfl (y_move rfl) ?_
    refine rw_gf rfl rfl (by decide) rfl ?_
    refine rw_gf rfl rfl (by decide) rfl ?_
    refine rw_gf rfl rfl (by decide) rfl ?_
    refine rw_gf rfl rfl (by decide) rfl ?_
    refine rw_p rfl rfl (y_pickT rfl rfl) ?_
    refine rw_p rfl rfl (y_move rfl) ?_
    refine rw_gf rfl rfl (by decide) rfl ?_
    refine rw_gf rfl rfl (by decide) rfl ?_
    refine rw_gf rfl rfl (by decide) rfl ?_
    refine rw_gf rfl rfl (by decide) rfl ?_
    refine rw_p rfl rfl (y_pickT rfl rfl) ?_
    refine rw_done ?_
    refine gn_sq ?_
    refine HW_condT rfl rfl rfl ?_
    refine HW_seq rfl ?_
    refine HW_text (.act 0 (.pure 1 .done)) (by kernel_rfl) ?_
    refine a_call rfl rfl rfl go8 (law_alive _) fun v w hR => ?_
    obtain ⟨rfl, hE⟩ := hR
    refine ⟨trivial, ?_⟩
    replace hm := hm.ext hE
    refine rw_p rfl rfl (y_assign rfl) ?_
    refine rw_done ?_
    refine gn_sq ?_
    refine HW_ret rfl ?_
    refine gr_sq ?_
    refine toR (fin hret rfl (.tmp rfl .nil) .one ?_)
    exact ⟨rfl, hm.to⟩

end Go.Proofs.Ytkllojjpaelmhaa
