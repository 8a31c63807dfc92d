/- Contracts of functions of the program: what each returns. Conditions: the hypotheses of each theorem. -/
import Derived.Test.YthokcfkcamcapaaDevH
set_option linter.unusedVariables false
set_option linter.unusedSimpArgs false
namespace Go.Proofs.Ythokcfkcamcapaa
open Go Go.Cx

theorem fl58 : flat Try.prog 58 [.num .i64, .num .i64, .num .i64, .num .i64, .num .i64] = true := by kernel_rfl
theorem go27 : isGo Try.prog 27 = true := by kernel_rfl
theorem sz5 : szO Try.prog 5 = some 1 := by kernel_rfl

set_option maxHeartbeats 3200000 in
theorem law_keeps (u1 u2 : Int) (pb : Option Addr) (cb : Nat) (bs : List UInt8) (i9 : Int) (w0 : World) (hbk : SB.ok w0 ⟨pb, cb, bs⟩) (hu1 : Pl.I64 u1) (hu2 : Pl.I64 u2) (hi9 : Pl.I64 i9) : C Try.prog 7 [.agg ⟨[.int .i64 u1, .int .i64 u2, .slice pb bs.length cb]⟩, .int .i64 i9] w0 fun v w' => v = .bool true ∧ Ext No w0 w' := by
  simp only [Pl.I64] at hu1 hu2
  have hbl := hbk.le
  have hbm := hbk.max
  simp only at hbl hbm
  refine C_of Try.func7 rfl rfl rfl fun κ hret hnorm => ?_
  have hm := Mem.start w0
  refine HW_seq rfl ?_
  refine HW_text (.act 0 (.pure 1 .done)) (by kernel_rfl) ?_
  refine a_box rfl rfl rfl rfl hm trivial fun m1 w hg_m1 hm hh => ?_
  refine rw_p rfl rfl (y_assign rfl) ?_
  refine rw_done ?_
  refine gn_sq ?_
  refine HW_seq rfl ?_
  refine HW_seq rfl ?_
  refine HW_text (.pure 0 (.act 1 (.pure 2 (.pure 3 (.pure 4 (.pure 5 (.pure 6 (.pure 7 (.pure 8 (.pure 9 (.pure 10 (.pure 11 (.pure 12 .done))))))))))))) (by kernel_rfl) ?_
  refine rw_p rfl rfl (y_loadA (s := 3) (vs := [_, _, _]) rfl ag35 (hm.nt 0 rfl) rfl) ?_
  refine a_call rfl rfl rfl go17 (law_fits u1 u2 pb cb bs none 0 0 _ (by omega)) fun v w hR => ?_
  obtain ⟨rfl, hE⟩ := hR
  refine ⟨trivial, ?_⟩
  replace hm := hm.ext hE
  refine rw_p rfl rfl (y_not rfl) ?_
  refine rw_p rfl rfl (y_move rfl) ?_
  refine rw_g rfl rfl rfl (fun hc => (y_move rfl)) ?_
  refine rw_g rfl rfl rfl (fun hc => (y_lt (gx hc rfl) rfl)) ?_
  refine rw_p rfl rfl (y_or rfl rfl rfl) ?_
  refine rw_p rfl rfl (y_move rfl) ?_
  refine rw_g rfl rfl rfl (fun hc => (y_move rfl)) ?_
  refine rw_g rfl rfl rfl (fun hc => (y_fieldAddr rfl fo35_1)) ?_
  refine rw_g rfl rfl rfl (fun hc => (y_load (gx hc rfl) sc3 (hm.nt 0 rfl) rfl)) ?_
  refine rw_g rfl rfl rfl (fun hc => (y_ge (gx hc rfl) (gx hc rfl))) ?_
  refine rw_p rfl rfl (y_or rfl rfl rfl) ?_
  refine rw_done ?_
  refine gn_sq ?_
  refine HW_cond rfl rfl (fun hc0 => ?_) (fun hc0 => ?_)
  ·
    refine HW_seq rfl ?_
    refine HW_text (.act 0 (.pure 1 .done)) (by kernel_rfl) ?_
    refine a_call rfl rfl rfl go8 (law_alive _) fun v w hR => ?_
    obtain ⟨rfl, hE⟩ := hR
    refine ⟨trivial, ?_⟩
    replace hm := hm.ext hE
    refine rw_p rfl rfl (y_assign rfl) ?_
    refine rw_done ?_
    refine gn_sq ?_
    refine HW_ret rfl ?_
    refine gr_sq ?_
    refine toR (fin hret rfl (.tmp rfl .nil) .one ?_)
    exact ⟨rfl, hm.to⟩
  ·
    simp only [Bool.or_eq_false_iff, Bool.not_eq_false', Bool.and_eq_true, decide_eq_true_eq, decide_eq_false_iff_not] at hc0
    obtain ⟨⟨⟨⟨hrt, h500⟩, h60⟩, hi0⟩, hi1⟩ := hc0
    obtain ⟨h1, h2, h3, h4⟩ := Pl.right_of hrt
    obtain ⟨a, rfl⟩ : ∃ a : Nat, u1 = a := ⟨u1.toNat, by omega⟩
    obtain ⟨c, rfl⟩ : ∃ c : Nat, u2 = c := ⟨u2.toNat, by omega⟩
    have hac : (a : Int) * (c : Int) = ((c * a : Nat) : Int) := by rw [Nat.mul_comm]; norm_cast
    rw [hac] at h3 h4
    have hca : 1 ≤ c * a := Nat.mul_pos (by omega) (by omega)
    have ha9 : a ≤ c * a := Nat.le_mul_of_pos_left _ (by omega)
    have hc9 : c ≤ c * a := Nat.le_mul_of_pos_right _ (by omega)
    rw [hac] at h500
    refine HW_skip rfl ?_
    refine gn_sq ?_
    refine HW_seq rfl ?_
    refine HW_text (.act 0 (.pure 1 (.pure 2 (.act 3 (.pure 4 .done))))) (by kernel_rfl) ?_
    refine a_buildSlice (l := []) rfl rfl sl24 z5 rfl rfl rfl rfl rfl rfl rfl hm trivial fun m2 w hg_m2 hm hh => ?_
    refine rw_p rfl rfl (y_fieldAddr rfl fo35_2) ?_
    refine rw_p rfl rfl (y_load rfl sc24 (hm.nt 1 rfl) rfl) ?_
    refine a_append rfl rfl rfl rfl rfl rfl sl24 sl24 z5 rfl (oneB bs) (hbk.rd.ext0 hm.to) (lenB bs) (Acc.row rfl) hm 0 rfl (by omega) (by omega) fun p_k cap_k g_k b_k w ha_k hm => ?_
    rw [Nat.zero_add bs.length] at ha_k ⊢
    replace ha_k := ha_k.to (show _ = bs.flatMap encB from List.nil_append _)
    refine rw_p rfl rfl (y_assign rfl) ?_
    refine rw_done ?_
    refine gn_sq ?_
    refine HW_via (ι := Nat × Nat × List (Nat × Blk) × List (Nat × Blk)) rfl (ks := [1, 2, 4, 5]) (.cons rfl (.cons rfl (.cons rfl (.cons rfl .nil)))) (fun v => [(6, .pointer (some ⟨v.1, 0, none⟩)), (7, .pointer (some ⟨v.2.1, 0, none⟩))]) (fun v w => Mem w0 w No ((g_k, b_k) :: (m1, .row 35 [.int .i64 (a : Int), .int .i64 (c : Int), .slice pb bs.length cb]) :: (v.2.2.1 ++ v.2.2.2)) ∧ DevZ 72 84 5 (Pl.nDv a c bs) v.1 v.2.2.1 ∧ RefZ 48 55 5 (Pl.nDv a c bs) v.2.1 v.2.2.2) ?_ (fun v w hM => ?_)
    ·
      refine HW_draw (.pure 0 (.pure 1 (.pure 2 (.pure 3 (.pure 4 (.pure 7 (.pure 8 (.pure 9 (.pure 10 (.pure 11 (.pure 12 (.act 5 (.act 6 (.cut (.act 13 (.pure 14 (.pure 15 .done))))))))))))))))) No mix (by kernel_rfl) hm fun w hw hm0 hh => ?_
      have hm := hm0
      refine rw_p rfl rfl (y_fieldAddr rfl fo35_0) ?_
      refine rw_p rfl rfl (y_load rfl sc3 (hm0.nd 1 rfl id) rfl) ?_
      refine rw_p rfl rfl (y_fieldAddr rfl fo35_1) ?_
      refine rw_p rfl rfl (y_load rfl sc3 (hm0.nd 1 rfl id) rfl) ?_
      refine rw_p rfl rfl (y_move rfl) ?_
      refine rw_p rfl rfl (y_fieldAddr rfl fo35_0) ?_
      refine rw_p rfl rfl (y_load rfl sc3 (hm0.nd 1 rfl id) rfl) ?_
      refine rw_p rfl rfl (y_fieldAddr rfl fo35_1) ?_
      refine rw_p rfl rfl (y_load rfl sc3 (hm0.nd 1 rfl id) rfl) ?_
      refine rw_p rfl rfl (y_fieldAddr rfl fo35_2) ?_
      refine rw_p rfl rfl (y_load rfl sc24 (hm0.nd 1 rfl id) rfl) ?_
      refine a_buildSlice (l := [_]) rfl rfl sl22 z24 rfl rfl rfl rfl rfl rfl rfl hm hh fun m3 w hg_m3 hm hh => ?_
      refine a_call rfl rfl rfl go9 (o_newN a c _ 1 [⟨p_k, cap_k, bs⟩] _ (Rd.row0 (hm.get (k := 0) rfl)) (fun s hs => by rw [List.mem_singleton.1 hs]; exact ha_k.rd hm 1 rfl) (by simp) (by simp; omega) bs (by simp) hrt) fun v w hR => ?_
      obtain ⟨m, Zw, rfl, hz, hmc⟩ := hR
      refine ⟨Hold.ext hh hmc.to, ?_⟩
      replace hm := hm.callTZ hmc
      replace hh := Hold.ext hh hmc.to
      refine a_cut ?_
      refine a_call rfl rfl rfl go18 (rf_new a c pb cb bs _ (hbk.rd.ext0 hm.to) (by omega) (by omega) (by omega) (by omega)) fun v w hR => ?_
      obtain ⟨mr, Zr, rfl, hy, hmc⟩ := hR
      refine ⟨trivial, ?_⟩
      replace hm := Mem.callT2 (A := [_, _, _]) hm hmc
      refine rw_p rfl rfl (y_assign rfl) ?_
      refine rw_p rfl rfl (y_assign rfl) ?_
      refine rw_done ?_
      exact gn_vi (m, mr, Zw, Zr) ⟨(hm.pickT [1, 2] 3 rfl), hz, hy⟩ ⟨rfl, rfl, rfl, rfl, rfl, rfl, trivial⟩
    ·
      obtain ⟨m, mr, Zw, Zr⟩ := v
      obtain ⟨hm, hz, hy⟩ := hM
      simp only at hm hz hy ⊢
      refine HW_seq rfl ?_
      refine HW_seq rfl ?_
      refine HW_text (.pure 0 (.pure 1 .done)) (by kernel_rfl) ?_
      refine rw_p rfl rfl (y_move rfl) ?_
      refine rw_p rfl rfl (y_pnil rfl rfl pb25) ?_
      refine rw_done ?_
      refine gn_sq ?_
      refine HW_condF rfl rfl rfl ?_
      refine HW_skip rfl ?_
      refine gn_sq ?_
      refine HW_seq rfl ?_
      refine HW_text (.pure 0 (.pure 1 (.act 2 (.pure 3 .done)))) (by kernel_rfl) ?_
      refine rw_p rfl rfl (y_fieldAddr rfl fo35_0) ?_
      refine rw_p rfl rfl (y_load rfl sc3 (hm.nt 1 rfl) rfl) ?_
      refine a_make rfl rfl rfl rfl sl24 z5 rfl (by omega) (by omega) (by omega) hm trivial fun g_f w hg_f ha_f hm hh => ?_
      replace ha_f := ha_f.to (repB a)
      obtain ⟨hcd0, hwk9, hcd1⟩ := Pl.keep_code (a := a) (c := c) (bs := bs) (i := i9) (by omega) (by omega)
      have hca1 : (Pl.wDv (Pl.nDv a c bs) i9 (List.replicate a 0)).ca.length ≤ 0 + 1 := (Pl.opDv_len (Pl.nDv a c bs) 1 i9 (List.replicate a 0) 0).1
      refine rw_p rfl rfl (y_assign rfl) ?_
      refine rw_done ?_
      refine gn_sq ?_
      refine HW_seq rfl ?_
      refine HW_text (.pure 0 (.pure 1 (.pure 2 (.act 3 (.pure 4 .done))))) (by kernel_rfl) ?_
      refine rw_p rfl rfl (y_move rfl) ?_
      refine rw_p rfl rfl (y_move rfl) ?_
      refine rw_p rfl rfl (y_move rfl) ?_
      refine a_call rfl rfl rfl go26 (C.eqv (o_write (Pl.nDv a c bs) m _ _ (OwnZ.mid (A := [_, _, _]) hm.ownZ) hz _ a (List.replicate a 0) i9 (ha_f.rd hm 0 rfl) (fun _ ad e h9 => by cases e; exact Mem.notT (A := [_, _, _]) hm (k := 0) rfl rfl (Mn_left h9)) (by rw [List.length_replicate]; exact Nat.le_refl _) (Nat.zero_le _)) (by rw [List.length_replicate])) fun v w hR => ?_
      obtain ⟨rfl, Zw, hz, hmc⟩ := hR
      refine ⟨trivial, ?_⟩
      replace hm := Mem.callM (A := [_, _, _]) hm hmc
      refine rw_p rfl rfl (y_assign rfl) ?_
      refine rw_done ?_
      refine gn_sq ?_
      refine HW_seq rfl ?_
      refine HW_text (.pure 0 (.pure 1 (.pure 2 (.act 3 .done)))) (by kernel_rfl) ?_
      refine rw_p rfl rfl (y_move rfl) ?_
      refine rw_p rfl rfl (y_move rfl) ?_
      refine rw_p rfl rfl (y_move rfl) ?_
      refine a_call rfl rfl rfl go28 (C.eqv (q_put (Pl.nDv a c bs) mr _ _ (OwnZ.end (A := [_, _, _]) hm.ownZ) hy _ a (List.replicate a 0) i9 (ha_f.rd hm 0 rfl) (fun _ ad e h9 => by cases e; exact Mem.notT (A := [_, _, _]) hm (k := 0) rfl rfl (Mn_right h9)) (by rw [List.length_replicate]; exact Nat.le_refl _) (Nat.zero_le _)) (by rw [List.length_replicate])) fun v w hR => ?_
      obtain ⟨rfl, Zr, hy, hmc⟩ := hR
      refine ⟨trivial, ?_⟩
      replace hm := Mem.callR (A := [_, _, _]) hm hmc
      refine rw_done ?_
      refine gn_sq ?_
      refine HW_seq rfl ?_
      refine HW_text (.pure 0 (.pure 1 (.act 2 (.pure 3 (.pure 4 (.pure 5 (.pure 6 (.pure 7 .done)))))))) (by kernel_rfl) ?_
      refine rw_p rfl rfl (y_move rfl) ?_
      refine rw_p rfl rfl (y_move rfl) ?_
      refine a_call rfl rfl rfl go24 (o_read (Pl.wDv (Pl.nDv a c bs) i9 (List.replicate a 0)) m _ _ (OwnZ.mid (A := [_, _, _]) hm.ownZ) hz i9) fun v w hR => ?_
      obtain ⟨p_s, cap_s, g_s, b_s, rfl, ha_s, hmc⟩ := hR
      refine ⟨trivial, ?_⟩
      have hg_s : b_s.real = true → _ := fun hr => (hmc.fresh _ List.mem_cons_self hr).resolve_left id
      replace hm := hm.callN hmc
      simp only [hcd1, if_true] at ha_s ⊢
      have hRl := Pl.rdC_len hz.ok i9
      unfold Pl.rdC at hRl
      rw [if_pos hcd1] at hRl
      have hDl : (Pl.wDv (Pl.nDv a c bs) i9 (List.replicate a 0)).dk.length ≤ 1048576 := by rw [hz.ok.len]; exact hz.ok.max
      refine rw_p rfl rfl (y_move rfl) ?_
      refine rw_p rfl rfl (y_extract rfl rfl) ?_
      refine rw_p rfl rfl (y_extract rfl rfl) ?_
      refine rw_p rfl rfl (y_assign rfl) ?_
      refine rw_p rfl rfl (y_assign rfl) ?_
      refine rw_done ?_
      refine gn_sq ?_
      refine HW_seq rfl ?_
      refine HW_text (.pure 0 (.act 1 (.pure 2 .done))) (by kernel_rfl) ?_
      refine rw_p rfl rfl (y_move rfl) ?_
      refine a_call rfl rfl rfl go13 (o_disk (Pl.wDv (Pl.nDv a c bs) i9 (List.replicate a 0)) m _ _ (OwnZ.mid (A := [_, _, _, _]) hm.ownZ) hz) fun v w hR => ?_
      obtain ⟨p_u, cap_u, g_u, b_u, rfl, ha_u, hmc⟩ := hR
      refine ⟨trivial, ?_⟩
      have hg_u : b_u.real = true → _ := fun hr => (hmc.fresh _ List.mem_cons_self hr).resolve_left id
      replace hm := hm.callN hmc
      refine rw_p rfl rfl (y_assign rfl) ?_
      refine rw_done ?_
      refine gn_sq ?_
      refine HW_seq rfl ?_
      refine HW_seq rfl ?_
      refine HW_text (.pure 0 (.pure 1 (.pure 2 (.pure 3 (.act 4 (.pure 5 (.pure 6 .done))))))) (by kernel_rfl) ?_
      refine rw_p rfl rfl (y_move rfl) ?_
      refine rw_p rfl rfl (y_move rfl) ?_
      refine rw_p rfl rfl (y_move rfl) ?_
      refine rw_p rfl rfl (y_move rfl) ?_
      refine a_buildSlice (l := [_, _, _, _]) rfl rfl sl22 z24 rfl rfl rfl rfl rfl rfl rfl hm trivial fun m23 w hg_m23 hm hh => ?_
      refine rw_p rfl rfl (y_len rfl rfl sl22) ?_
      refine rw_p rfl rfl (y_move rfl) ?_
      refine rw_done ?_
      refine gn_sq ?_
      refine HW_block rfl ?_
      refine HW_loopK (ι := Nat × Blk × Blk × Blk × Blk) rfl (ks := [1, 4, 6, 7, 9, 80, 81]) (.cons rfl (.cons rfl (.cons rfl (.cons rfl (.cons rfl (.cons rfl (.cons rfl .nil))))))) (fun y => [(82, .int .i64 y.1)]) (fun y w => Mem w0 w No ((m23, .row 24 [.slice p_k (bs.length) (cap_k), .slice (some ⟨g_f, 0, none⟩) (a) (a), .slice p_s ((Pl.rdS (Pl.wDv (Pl.nDv a c bs) i9 (List.replicate a 0)) i9).length) (cap_s), .slice p_u ((Pl.wDv (Pl.nDv a c bs) i9 (List.replicate a 0)).dk.length) (cap_u)]) :: (g_k, y.2.1) :: (g_f, y.2.2.1) :: (g_s, y.2.2.2.1) :: (g_u, y.2.2.2.2) :: (m1, .row 35 [.int .i64 (a : Int), .int .i64 (c : Int), .slice pb bs.length cb]) :: (Zw ++ Zr)) ∧ AccB 5 p_k (bs.length) (cap_k) g_k y.2.1 ∧ AccB 5 (some ⟨g_f, 0, none⟩) (a) (a) g_f y.2.2.1 ∧ AccB 5 p_s ((Pl.rdS (Pl.wDv (Pl.nDv a c bs) i9 (List.replicate a 0)) i9).length) (cap_s) g_s y.2.2.2.1 ∧ AccB 5 p_u ((Pl.wDv (Pl.nDv a c bs) i9 (List.replicate a 0)).dk.length) (cap_u) g_u y.2.2.2.2 ∧ y.1 ≤ 4) (fun y => 4 - y.1) (0, b_k, _, b_s, b_u) (⟨(hm.pickT [0, 4, 3, 2, 1, 5] 6 rfl), ⟨bs, rfl, ha_k⟩, ⟨_, List.length_replicate, ha_f⟩, ⟨_, rfl, ha_s⟩, ⟨_, rfl, ha_u⟩, by omega⟩) ⟨rfl, trivial⟩ (fun y w hM => ?_)
      obtain ⟨hm, hA_k, hA_f, hA_s, hA_u, hk⟩ := hM
      refine HW_seq rfl ?_
      refine HW_text (.pure 0 .done) (by kernel_rfl) ?_
      refine rw_p rfl rfl (y_lt rfl rfl) ?_
      refine rw_done ?_
      refine gn_sq ?_
      refine HW_seq rfl ?_
      refine HW_cond rfl rfl (fun hc2 => ?_) (fun hc2 => ?_)
      ·
        simp only [decide_eq_true_eq] at hc2
        obtain ⟨yi, bK_, bF_, bS_, bU_⟩ := y
        simp only at hm hA_k hA_f hA_s hA_u hk hc2 ⊢
        refine HW_skip rfl ?_
        refine gn_sq ?_
        refine HW_seq rfl ?_
        refine HW_block rfl ?_
        refine HW_seq rfl ?_
        rcases (show yi = 0 ∨ yi = 1 ∨ yi = 2 ∨ yi = 3 by omega) with rfl | rfl | rfl | rfl
        ·
          obtain ⟨X0, hX0, ha_k⟩ := hA_k
          refine HW_text (.pure 0 (.pure 1 (.pure 2 .done))) (by kernel_rfl) ?_
          refine rw_p rfl rfl (y_index rfl rfl sl22 rfl (by omega) (by omega)) ?_
          refine rw_p rfl rfl (y_load rfl sc24 (hm.nt 0 rfl) rfl) ?_
          refine rw_p rfl rfl (y_assign rfl) ?_
          refine rw_done ?_
          refine gn_sq ?_
          refine HW_seq rfl ?_
          refine HW_text (.pure 0 (.pure 1 (.pure 2 .done))) (by kernel_rfl) ?_
          refine rw_p rfl rfl (y_move rfl) ?_
          refine rw_p rfl rfl (y_len rfl rfl sl24) ?_
          refine rw_p rfl rfl (y_move rfl) ?_
          refine rw_done ?_
          refine gn_sq ?_
          refine HW_block rfl ?_
          refine HW_loopK (ι := Nat × Blk) rfl (ks := [1, 4, 6, 7, 9, 14, 80, 81, 82, 87]) (.cons rfl (.cons rfl (.cons rfl (.cons rfl (.cons rfl (.cons rfl (.cons rfl (.cons rfl (.cons rfl (.cons rfl .nil)))))))))) (fun z => [(88, .int .i64 z.1)]) (fun z w => Mem w0 w No ((m23, .row 24 [.slice p_k (bs.length) (cap_k), .slice (some ⟨g_f, 0, none⟩) (a) (a), .slice p_s ((Pl.rdS (Pl.wDv (Pl.nDv a c bs) i9 (List.replicate a 0)) i9).length) (cap_s), .slice p_u ((Pl.wDv (Pl.nDv a c bs) i9 (List.replicate a 0)).dk.length) (cap_u)]) :: (g_k, z.2) :: (g_f, bF_) :: (g_s, bS_) :: (g_u, bU_) :: (m1, .row 35 [.int .i64 (a : Int), .int .i64 (c : Int), .slice pb bs.length cb]) :: (Zw ++ Zr)) ∧ AccB 5 p_k (bs.length) (cap_k) g_k z.2 ∧ z.1 ≤ bs.length) (fun z => bs.length - z.1) (0, bK_) (⟨(hm.pickT [0, 1, 2, 3, 4, 5] 6 rfl), ⟨X0, hX0, ha_k⟩, Nat.zero_le _⟩) ⟨rfl, trivial⟩ (fun z w hM => ?_)
          obtain ⟨hm, ⟨X, hX, ha_k⟩, hk8⟩ := hM
          refine HW_seq rfl ?_
          refine HW_text (.pure 0 .done) (by kernel_rfl) ?_
          refine rw_p rfl rfl (y_lt rfl rfl) ?_
          refine rw_done ?_
          refine gn_sq ?_
          refine HW_seq rfl ?_
          refine HW_cond rfl rfl (fun hc3 => ?_) (fun hc3 => ?_)
          ·
            simp only [decide_eq_true_eq] at hc3
            obtain ⟨d9, hd9⟩ : ∃ y_, X[z.1]? = some y_ := ⟨_, List.getElem?_eq_getElem (by omega)⟩
            refine HW_skip rfl ?_
            refine gn_sq ?_
            refine HW_seq rfl ?_
            refine HW_block rfl ?_
            refine HW_seq rfl ?_
            refine HW_text (.pure 0 (.pure 1 .done)) (by kernel_rfl) ?_
            refine rw_p rfl rfl (y_move rfl) ?_
            refine rw_p rfl rfl (y_assign rfl) ?_
            refine rw_done ?_
            refine gn_sq ?_
            refine HW_text (.pure 0 (.pure 1 (.pure 2 (.pure 3 (.pure 4 (.pure 5 (.act 6 .done))))))) (by kernel_rfl) ?_
            refine rw_p rfl rfl (y_move rfl) ?_
            refine rw_p rfl rfl (y_move rfl) ?_
            refine rw_p rfl rfl (y_index rfl rfl sl24 (ha_k.ptr (by omega)) (by omega) (by omega)) ?_
            refine rw_p rfl rfl (y_el1 rfl sc5 ((ha_k.ptr (by omega)) ▸ ha_k.rd hm 1 rfl).nt encB_len hd9 rfl) ?_
            refine rw_p rfl rfl (y_add rfl rfl b_add3) ?_
            refine rw_p rfl rfl (y_index rfl rfl sl24 (ha_k.ptr (by omega)) (by omega) (by omega)) ?_
            refine a_storeE rfl rfl rfl rfl sz5 rfl rfl ha_k (by omega) hm 1 rfl fun b_k w ha_k hm => ?_
            replace ha_k := ha_k.to (updB _ _ _)
            refine rw_done ?_
            refine gn_bl ?_
            refine gn_sq ?_
            refine HW_text (.pure 0 (.pure 1 .done)) (by kernel_rfl) ?_
            refine rw_p rfl rfl (y_add rfl rfl (i64w (by omega) (by omega))) ?_
            refine rw_p rfl rfl (y_move rfl) ?_
            refine rw_done ?_
            refine next (z.1 + 1, b_k) (by simp only; omega) ⟨(hm.pickT [0, 1, 2, 3, 4, 5] 6 rfl), ⟨_, by rw [List.length_set]; exact hX, ha_k⟩, by simp only; omega⟩ ⟨nx z.1, rfl, rfl, rfl, rfl, rfl, rfl, rfl, rfl, rfl, rfl, trivial⟩
          ·
            refine HW_exit rfl ?_
            refine gx_sq (gx_lp ?_)
            refine gx_here ?_
            refine gn_bl ?_
            refine gn_sq ?_
            refine HW_text (.pure 0 (.pure 1 .done)) (by kernel_rfl) ?_
            refine rw_p rfl rfl (y_add rfl rfl (i64w (by omega) (by omega))) ?_
            refine rw_p rfl rfl (y_move rfl) ?_
            refine rw_done ?_
            first | refine next (1, z.2, bF_, bS_, bU_) (by simp only; omega) ⟨(hm.pickT [0, 1, 2, 3, 4, 5] 6 rfl), ⟨X, hX, ha_k⟩, hA_f, hA_s, hA_u, by simp only; omega⟩ ⟨nx 0, rfl, rfl, rfl, rfl, rfl, rfl, rfl, trivial⟩ | refine next (2, bK_, z.2, bS_, bU_) (by simp only; omega) ⟨(hm.pickT [0, 1, 2, 3, 4, 5] 6 rfl), hA_k, ⟨X, hX, ha_f⟩, hA_s, hA_u, by simp only; omega⟩ ⟨nx 1, rfl, rfl, rfl, rfl, rfl, rfl, rfl, trivial⟩ | refine next (3, bK_, bF_, z.2, bU_) (by simp only; omega) ⟨(hm.pickT [0, 1, 2, 3, 4, 5] 6 rfl), hA_k, hA_f, ⟨X, hX, ha_s⟩, hA_u, by simp only; omega⟩ ⟨nx 2, rfl, rfl, rfl, rfl, rfl, rfl, rfl, trivial⟩ | refine next (4, bK_, bF_, bS_, z.2) (by simp only; omega) ⟨(hm.pickT [0, 1, 2, 3, 4, 5] 6 rfl), hA_k, hA_f, hA_s, ⟨X, hX, ha_u⟩, by simp only; omega⟩ ⟨nx 3, rfl, rfl, rfl, rfl, rfl, rfl, rfl, trivial⟩
        ·
          obtain ⟨X0, hX0, ha_f⟩ := hA_f
          refine HW_text (.pure 0 (.pure 1 (.pure 2 .done))) (by kernel_rfl) ?_
          refine rw_p rfl rfl (y_index rfl rfl sl22 rfl (by omega) (by omega)) ?_
          refine rw_p rfl rfl (y_load rfl sc24 (hm.nt 0 rfl) rfl) ?_
          refine rw_p rfl rfl (y_assign rfl) ?_
          refine rw_done ?_
          refine gn_sq ?_
          refine HW_seq rfl ?_
          refine HW_text (.pure 0 (.pure 1 (.pure 2 .done))) (by kernel_rfl) ?_
          refine rw_p rfl rfl (y_move rfl) ?_
          refine rw_p rfl rfl (y_len rfl rfl sl24) ?_
          refine rw_p rfl rfl (y_move rfl) ?_
          refine rw_done ?_
          refine gn_sq ?_
          refine HW_block rfl ?_
          refine HW_loopK (ι := Nat × Blk) rfl (ks := [1, 4, 6, 7, 9, 14, 80, 81, 82, 87]) (.cons rfl (.cons rfl (.cons rfl (.cons rfl (.cons rfl (.cons rfl (.cons rfl (.cons rfl (.cons rfl (.cons rfl .nil)))))))))) (fun z => [(88, .int .i64 z.1)]) (fun z w => Mem w0 w No ((m23, .row 24 [.slice p_k (bs.length) (cap_k), .slice (some ⟨g_f, 0, none⟩) (a) (a), .slice p_s ((Pl.rdS (Pl.wDv (Pl.nDv a c bs) i9 (List.replicate a 0)) i9).length) (cap_s), .slice p_u ((Pl.wDv (Pl.nDv a c bs) i9 (List.replicate a 0)).dk.length) (cap_u)]) :: (g_k, bK_) :: (g_f, z.2) :: (g_s, bS_) :: (g_u, bU_) :: (m1, .row 35 [.int .i64 (a : Int), .int .i64 (c : Int), .slice pb bs.length cb]) :: (Zw ++ Zr)) ∧ AccB 5 (some ⟨g_f, 0, none⟩) (a) (a) g_f z.2 ∧ z.1 ≤ a) (fun z => a - z.1) (0, bF_) (⟨(hm.pickT [0, 1, 2, 3, 4, 5] 6 rfl), ⟨X0, hX0, ha_f⟩, Nat.zero_le _⟩) ⟨rfl, trivial⟩ (fun z w hM => ?_)
          obtain ⟨hm, ⟨X, hX, ha_f⟩, hk8⟩ := hM
          refine HW_seq rfl ?_
          refine HW_text (.pure 0 .done) (by kernel_rfl) ?_
          refine rw_p rfl rfl (y_lt rfl rfl) ?_
          refine rw_done ?_
          refine gn_sq ?_
          refine HW_seq rfl ?_
          refine HW_cond rfl rfl (fun hc3 => ?_) (fun hc3 => ?_)
          ·
            simp only [decide_eq_true_eq] at hc3
            obtain ⟨d9, hd9⟩ : ∃ y_, X[z.1]? = some y_ := ⟨_, List.getElem?_eq_getElem (by omega)⟩
            refine HW_skip rfl ?_
            refine gn_sq ?_
            refine HW_seq rfl ?_
            refine HW_block rfl ?_
            refine HW_seq rfl ?_
            refine HW_text (.pure 0 (.pure 1 .done)) (by kernel_rfl) ?_
            refine rw_p rfl rfl (y_move rfl) ?_
            refine rw_p rfl rfl (y_assign rfl) ?_
            refine rw_done ?_
            refine gn_sq ?_
            refine HW_text (.pure 0 (.pure 1 (.pure 2 (.pure 3 (.pure 4 (.pure 5 (.act 6 .done))))))) (by kernel_rfl) ?_
            refine rw_p rfl rfl (y_move rfl) ?_
            refine rw_p rfl rfl (y_move rfl) ?_
            refine rw_p rfl rfl (y_index rfl rfl sl24 (ha_f.ptr (by omega)) (by omega) (by omega)) ?_
            refine rw_p rfl rfl (y_el1 rfl sc5 ((ha_f.ptr (by omega)) ▸ ha_f.rd hm 2 rfl).nt encB_len hd9 rfl) ?_
            refine rw_p rfl rfl (y_add rfl rfl b_add3) ?_
            refine rw_p rfl rfl (y_index rfl rfl sl24 (ha_f.ptr (by omega)) (by omega) (by omega)) ?_
            refine a_storeE rfl rfl rfl rfl sz5 rfl rfl ha_f (by omega) hm 2 rfl fun b_f w ha_f hm => ?_
            replace ha_f := ha_f.to (updB _ _ _)
            refine rw_done ?_
            refine gn_bl ?_
            refine gn_sq ?_
            refine HW_text (.pure 0 (.pure 1 .done)) (by kernel_rfl) ?_
            refine rw_p rfl rfl (y_add rfl rfl (i64w (by omega) (by omega))) ?_
            refine rw_p rfl rfl (y_move rfl) ?_
            refine rw_done ?_
            refine next (z.1 + 1, b_f) (by simp only; omega) ⟨(hm.pickT [0, 1, 2, 3, 4, 5] 6 rfl), ⟨_, by rw [List.length_set]; exact hX, ha_f⟩, by simp only; omega⟩ ⟨nx z.1, rfl, rfl, rfl, rfl, rfl, rfl, rfl, rfl, rfl, rfl, trivial⟩
          ·
            refine HW_exit rfl ?_
            refine gx_sq (gx_lp ?_)
            refine gx_here ?_
            refine gn_bl ?_
            refine gn_sq ?_
            refine HW_text (.pure 0 (.pure 1 .done)) (by kernel_rfl) ?_
            refine rw_p rfl rfl (y_add rfl rfl (i64w (by omega) (by omega))) ?_
            refine rw_p rfl rfl (y_move rfl) ?_
            refine rw_done ?_
            first | refine next (1, z.2, bF_, bS_, bU_) (by simp only; omega) ⟨(hm.pickT [0, 1, 2, 3, 4, 5] 6 rfl), ⟨X, hX, ha_k⟩, hA_f, hA_s, hA_u, by simp only; omega⟩ ⟨nx 0, rfl, rfl, rfl, rfl, rfl, rfl, rfl, trivial⟩ | refine next (2, bK_, z.2, bS_, bU_) (by simp only; omega) ⟨(hm.pickT [0, 1, 2, 3, 4, 5] 6 rfl), hA_k, ⟨X, hX, ha_f⟩, hA_s, hA_u, by simp only; omega⟩ ⟨nx 1, rfl, rfl, rfl, rfl, rfl, rfl, rfl, trivial⟩ | refine next (3, bK_, bF_, z.2, bU_) (by simp only; omega) ⟨(hm.pickT [0, 1, 2, 3, 4, 5] 6 rfl), hA_k, hA_f, ⟨X, hX, ha_s⟩, hA_u, by simp only; omega⟩ ⟨nx 2, rfl, rfl, rfl, rfl, rfl, rfl, rfl, trivial⟩ | refine next (4, bK_, bF_, bS_, z.2) (by simp only; omega) ⟨(hm.pickT [0, 1, 2, 3, 4, 5] 6 rfl), hA_k, hA_f, hA_s, ⟨X, hX, ha_u⟩, by simp only; omega⟩ ⟨nx 3, rfl, rfl, rfl, rfl, rfl, rfl, rfl, trivial⟩
        ·
          obtain ⟨X0, hX0, ha_s⟩ := hA_s
          refine HW_text (.pure 0 (.pure 1 (.pure 2 .done))) (by kernel_rfl) ?_
          refine rw_p rfl rfl (y_index rfl rfl sl22 rfl (by omega) (by omega)) ?_
          refine rw_p rfl rfl (y_load rfl sc24 (hm.nt 0 rfl) rfl) ?_
          refine rw_p rfl rfl (y_assign rfl) ?_
          refine rw_done ?_
          refine gn_sq ?_
          refine HW_seq rfl ?_
          refine HW_text (.pure 0 (.pure 1 (.pure 2 .done))) (by kernel_rfl) ?_
          refine rw_p rfl rfl (y_move rfl) ?_
          refine rw_p rfl rfl (y_len rfl rfl sl24) ?_
          refine rw_p rfl rfl (y_move rfl) ?_
          refine rw_done ?_
          refine gn_sq ?_
          refine HW_block rfl ?_
          refine HW_loopK (ι := Nat × Blk) rfl (ks := [1, 4, 6, 7, 9, 14, 80, 81, 82, 87]) (.cons rfl (.cons rfl (.cons rfl (.cons rfl (.cons rfl (.cons rfl (.cons rfl (.cons rfl (.cons rfl (.cons rfl .nil)))))))))) (fun z => [(88, .int .i64 z.1)]) (fun z w => Mem w0 w No ((m23, .row 24 [.slice p_k (bs.length) (cap_k), .slice (some ⟨g_f, 0, none⟩) (a) (a), .slice p_s ((Pl.rdS (Pl.wDv (Pl.nDv a c bs) i9 (List.replicate a 0)) i9).length) (cap_s), .slice p_u ((Pl.wDv (Pl.nDv a c bs) i9 (List.replicate a 0)).dk.length) (cap_u)]) :: (g_k, bK_) :: (g_f, bF_) :: (g_s, z.2) :: (g_u, bU_) :: (m1, .row 35 [.int .i64 (a : Int), .int .i64 (c : Int), .slice pb bs.length cb]) :: (Zw ++ Zr)) ∧ AccB 5 p_s ((Pl.rdS (Pl.wDv (Pl.nDv a c bs) i9 (List.replicate a 0)) i9).length) (cap_s) g_s z.2 ∧ z.1 ≤ (Pl.rdS (Pl.wDv (Pl.nDv a c bs) i9 (List.replicate a 0)) i9).length) (fun z => (Pl.rdS (Pl.wDv (Pl.nDv a c bs) i9 (List.replicate a 0)) i9).length - z.1) (0, bS_) (⟨(hm.pickT [0, 1, 2, 3, 4, 5] 6 rfl), ⟨X0, hX0, ha_s⟩, Nat.zero_le _⟩) ⟨rfl, trivial⟩ (fun z w hM => ?_)
          obtain ⟨hm, ⟨X, hX, ha_s⟩, hk8⟩ := hM
          refine HW_seq rfl ?_
          refine HW_text (.pure 0 .done) (by kernel_rfl) ?_
          refine rw_p rfl rfl (y_lt rfl rfl) ?_
          refine rw_done ?_
          refine gn_sq ?_
          refine HW_seq rfl ?_
          refine HW_cond rfl rfl (fun hc3 => ?_) (fun hc3 => ?_)
          ·
            simp only [decide_eq_true_eq] at hc3
            obtain ⟨d9, hd9⟩ : ∃ y_, X[z.1]? = some y_ := ⟨_, List.getElem?_eq_getElem (by omega)⟩
            refine HW_skip rfl ?_
            refine gn_sq ?_
            refine HW_seq rfl ?_
            refine HW_block rfl ?_
            refine HW_seq rfl ?_
            refine HW_text (.pure 0 (.pure 1 .done)) (by kernel_rfl) ?_
            refine rw_p rfl rfl (y_move rfl) ?_
            refine rw_p rfl rfl (y_assign rfl) ?_
            refine rw_done ?_
            refine gn_sq ?_
            refine HW_text (.pure 0 (.pure 1 (.pure 2 (.pure 3 (.pure 4 (.pure 5 (.act 6 .done))))))) (by kernel_rfl) ?_
            refine rw_p rfl rfl (y_move rfl) ?_
            refine rw_p rfl rfl (y_move rfl) ?_
            refine rw_p rfl rfl (y_index rfl rfl sl24 (ha_s.ptr (by omega)) (by omega) (by omega)) ?_
            refine rw_p rfl rfl (y_el1 rfl sc5 ((ha_s.ptr (by omega)) ▸ ha_s.rd hm 3 rfl).nt encB_len hd9 rfl) ?_
            refine rw_p rfl rfl (y_add rfl rfl b_add3) ?_
            refine rw_p rfl rfl (y_index rfl rfl sl24 (ha_s.ptr (by omega)) (by omega) (by omega)) ?_
            refine a_storeE rfl rfl rfl rfl sz5 rfl rfl ha_s (by omega) hm 3 rfl fun b_s w ha_s hm => ?_
            replace ha_s := ha_s.to (updB _ _ _)
            refine rw_done ?_
            refine gn_bl ?_
            refine gn_sq ?_
            refine HW_text (.pure 0 (.pure 1 .done)) (by kernel_rfl) ?_
            refine rw_p rfl rfl (y_add rfl rfl (i64w (by omega) (by omega))) ?_
            refine rw_p rfl rfl (y_move rfl) ?_
            refine rw_done ?_
            refine next (z.1 + 1, b_s) (by simp only; omega) ⟨(hm.pickT [0, 1, 2, 3, 4, 5] 6 rfl), ⟨_, by rw [List.length_set]; exact hX, ha_s⟩, by simp only; omega⟩ ⟨nx z.1, rfl, rfl, rfl, rfl, rfl, rfl, rfl, rfl, rfl, rfl, trivial⟩
          ·
            refine HW_exit rfl ?_
            refine gx_sq (gx_lp ?_)
            refine gx_here ?_
            refine gn_bl ?_
            refine gn_sq ?_
            refine HW_text (.pure 0 (.pure 1 .done)) (by kernel_rfl) ?_
            refine rw_p rfl rfl (y_add rfl rfl (i64w (by omega) (by omega))) ?_
            refine rw_p rfl rfl (y_move rfl) ?_
            refine rw_done ?_
            first | refine next (1, z.2, bF_, bS_, bU_) (by simp only; omega) ⟨(hm.pickT [0, 1, 2, 3, 4, 5] 6 rfl), ⟨X, hX, ha_k⟩, hA_f, hA_s, hA_u, by simp only; omega⟩ ⟨nx 0, rfl, rfl, rfl, rfl, rfl, rfl, rfl, trivial⟩ | refine next (2, bK_, z.2, bS_, bU_) (by simp only; omega) ⟨(hm.pickT [0, 1, 2, 3, 4, 5] 6 rfl), hA_k, ⟨X, hX, ha_f⟩, hA_s, hA_u, by simp only; omega⟩ ⟨nx 1, rfl, rfl, rfl, rfl, rfl, rfl, rfl, trivial⟩ | refine next (3, bK_, bF_, z.2, bU_) (by simp only; omega) ⟨(hm.pickT [0, 1, 2, 3, 4, 5] 6 rfl), hA_k, hA_f, ⟨X, hX, ha_s⟩, hA_u, by simp only; omega⟩ ⟨nx 2, rfl, rfl, rfl, rfl, rfl, rfl, rfl, trivial⟩ | refine next (4, bK_, bF_, bS_, z.2) (by simp only; omega) ⟨(hm.pickT [0, 1, 2, 3, 4, 5] 6 rfl), hA_k, hA_f, hA_s, ⟨X, hX, ha_u⟩, by simp only; omega⟩ ⟨nx 3, rfl, rfl, rfl, rfl, rfl, rfl, rfl, trivial⟩
        ·
          obtain ⟨X0, hX0, ha_u⟩ := hA_u
          refine HW_text (.pure 0 (.pure 1 (.pure 2 .done))) (by kernel_rfl) ?_
          refine rw_p rfl rfl (y_index rfl rfl sl22 rfl (by omega) (by omega)) ?_
          refine rw_p rfl rfl (y_load rfl sc24 (hm.nt 0 rfl) rfl) ?_
          refine rw_p rfl rfl (y_assign rfl) ?_
          refine rw_done ?_
          refine gn_sq ?_
          refine HW_seq rfl ?_
          refine HW_text (.pure 0 (.pure 1 (.pure 2 .done))) (by kernel_rfl) ?_
          refine rw_p rfl rfl (y_move rfl) ?_
          refine rw_p rfl rfl (y_len rfl rfl sl24) ?_
          refine rw_p rfl rfl (y_move rfl) ?_
          refine rw_done ?_
          refine gn_sq ?_
          refine HW_block rfl ?_
          refine HW_loopK (ι := Nat × Blk) rfl (ks := [1, 4, 6, 7, 9, 14, 80, 81, 82, 87]) (.cons rfl (.cons rfl (.cons rfl (.cons rfl (.cons rfl (.cons rfl (.cons rfl (.cons rfl (.cons rfl (.cons rfl .nil)))))))))) (fun z => [(88, .int .i64 z.1)]) (fun z w => Mem w0 w No ((m23, .row 24 [.slice p_k (bs.length) (cap_k), .slice (some ⟨g_f, 0, none⟩) (a) (a), .slice p_s ((Pl.rdS (Pl.wDv (Pl.nDv a c bs) i9 (List.replicate a 0)) i9).length) (cap_s), .slice p_u ((Pl.wDv (Pl.nDv a c bs) i9 (List.replicate a 0)).dk.length) (cap_u)]) :: (g_k, bK_) :: (g_f, bF_) :: (g_s, bS_) :: (g_u, z.2) :: (m1, .row 35 [.int .i64 (a : Int), .int .i64 (c : Int), .slice pb bs.length cb]) :: (Zw ++ Zr)) ∧ AccB 5 p_u ((Pl.wDv (Pl.nDv a c bs) i9 (List.replicate a 0)).dk.length) (cap_u) g_u z.2 ∧ z.1 ≤ (Pl.wDv (Pl.nDv a c bs) i9 (List.replicate a 0)).dk.length) (fun z => (Pl.wDv (Pl.nDv a c bs) i9 (List.replicate a 0)).dk.length - z.1) (0, bU_) (⟨(hm.pickT [0, 1, 2, 3, 4, 5] 6 rfl), ⟨X0, hX0, ha_u⟩, Nat.zero_le _⟩) ⟨rfl, trivial⟩ (fun z w hM => ?_)
          obtain ⟨hm, ⟨X, hX, ha_u⟩, hk8⟩ := hM
          refine HW_seq rfl ?_
          refine HW_text (.pure 0 .done) (by kernel_rfl) ?_
          refine rw_p rfl rfl (y_lt rfl rfl) ?_
          refine rw_done ?_
          refine gn_sq ?_
          refine HW_seq rfl ?_
          refine HW_cond rfl rfl (fun hc3 => ?_) (fun hc3 => ?_)
          ·
            simp only [decide_eq_true_eq] at hc3
            obtain ⟨d9, hd9⟩ : ∃ y_, X[z.1]? = some y_ := ⟨_, List.getElem?_eq_getElem (by omega)⟩
            refine HW_skip rfl ?_
            refine gn_sq ?_
            refine HW_seq rfl ?_
            refine HW_block rfl ?_
            refine HW_seq rfl ?_
            refine HW_text (.pure 0 (.pure 1 .done)) (by kernel_rfl) ?_
            refine rw_p rfl rfl (y_move rfl) ?_
            refine rw_p rfl rfl (y_assign rfl) ?_
            refine rw_done ?_
            refine gn_sq ?_
            refine HW_text (.pure 0 (.pure 1 (.pure 2 (.pure 3 (.pure 4 (.pure 5 (.act 6 .done))))))) (by kernel_rfl) ?_
            refine rw_p rfl rfl (y_move rfl) ?_
            refine rw_p rfl rfl (y_move rfl) ?_
            refine rw_p rfl rfl (y_index rfl rfl sl24 (ha_u.ptr (by omega)) (by omega) (by omega)) ?_
            refine rw_p rfl rfl (y_el1 rfl sc5 ((ha_u.ptr (by omega)) ▸ ha_u.rd hm 4 rfl).nt encB_len hd9 rfl) ?_
            refine rw_p rfl rfl (y_add rfl rfl b_add3) ?_
            refine rw_p rfl rfl (y_index rfl rfl sl24 (ha_u.ptr (by omega)) (by omega) (by omega)) ?_
            refine a_storeE rfl rfl rfl rfl sz5 rfl rfl ha_u (by omega) hm 4 rfl fun b_u w ha_u hm => ?_
            replace ha_u := ha_u.to (updB _ _ _)
            refine rw_done ?_
            refine gn_bl ?_
            refine gn_sq ?_
            refine HW_text (.pure 0 (.pure 1 .done)) (by kernel_rfl) ?_
            refine rw_p rfl rfl (y_add rfl rfl (i64w (by omega) (by omega))) ?_
            refine rw_p rfl rfl (y_move rfl) ?_
            refine rw_done ?_
            refine next (z.1 + 1, b_u) (by simp only; omega) ⟨(hm.pickT [0, 1, 2, 3, 4, 5] 6 rfl), ⟨_, by rw [List.length_set]; exact hX, ha_u⟩, by simp only; omega⟩ ⟨nx z.1, rfl, rfl, rfl, rfl, rfl, rfl, rfl, rfl, rfl, rfl, trivial⟩
          ·
            refine HW_exit rfl ?_
            refine gx_sq (gx_lp ?_)
            refine gx_here ?_
            refine gn_bl ?_
            refine gn_sq ?_
            refine HW_text (.pure 0 (.pure 1 .done)) (by kernel_rfl) ?_
            refine rw_p rfl rfl (y_add rfl rfl (i64w (by omega) (by omega))) ?_
            refine rw_p rfl rfl (y_move rfl) ?_
            refine rw_done ?_
            first | refine next (1, z.2, bF_, bS_, bU_) (by simp only; omega) ⟨(hm.pickT [0, 1, 2, 3, 4, 5] 6 rfl), ⟨X, hX, ha_k⟩, hA_f, hA_s, hA_u, by simp only; omega⟩ ⟨nx 0, rfl, rfl, rfl, rfl, rfl, rfl, rfl, trivial⟩ | refine next (2, bK_, z.2, bS_, bU_) (by simp only; omega) ⟨(hm.pickT [0, 1, 2, 3, 4, 5] 6 rfl), hA_k, ⟨X, hX, ha_f⟩, hA_s, hA_u, by simp only; omega⟩ ⟨nx 1, rfl, rfl, rfl, rfl, rfl, rfl, rfl, trivial⟩ | refine next (3, bK_, bF_, z.2, bU_) (by simp only; omega) ⟨(hm.pickT [0, 1, 2, 3, 4, 5] 6 rfl), hA_k, hA_f, ⟨X, hX, ha_s⟩, hA_u, by simp only; omega⟩ ⟨nx 2, rfl, rfl, rfl, rfl, rfl, rfl, rfl, trivial⟩ | refine next (4, bK_, bF_, bS_, z.2) (by simp only; omega) ⟨(hm.pickT [0, 1, 2, 3, 4, 5] 6 rfl), hA_k, hA_f, hA_s, ⟨X, hX, ha_u⟩, by simp only; omega⟩ ⟨nx 3, rfl, rfl, rfl, rfl, rfl, rfl, rfl, trivial⟩
      ·
        obtain ⟨yi, bK_, bF_, bS_, bU_⟩ := y
        simp only at hm hA_k hA_f hA_s hA_u hk hc2 ⊢
        refine HW_exit rfl ?_
        refine gx_sq (gx_lp ?_)
        refine gx_here ?_
        refine gn_sq ?_
        refine HW_seq rfl ?_
        refine HW_text (.pure 0 (.pure 1 (.act 2 (.pure 3 (.pure 4 (.pure 5 (.pure 6 (.pure 7 .done)))))))) (by kernel_rfl) ?_
        refine rw_p rfl rfl (y_move rfl) ?_
        refine rw_p rfl rfl (y_move rfl) ?_
        refine a_call rfl rfl rfl go24 (o_read (Pl.wDv (Pl.nDv a c bs) i9 (List.replicate a 0)) m _ _ (OwnZ.mid (A := [_, _, _, _, _, _]) hm.ownZ) hz i9) fun v w hR => ?_
        obtain ⟨p_v1, cap_v1, g_v1, b_v1, rfl, ha_v1, hmc⟩ := hR
        refine ⟨trivial, ?_⟩
        have hg_v1 : b_v1.real = true → _ := fun hr => (hmc.fresh _ List.mem_cons_self hr).resolve_left id
        replace hm := hm.callN hmc
        simp only [hcd1, if_true] at ha_v1 ⊢
        refine rw_p rfl rfl (y_move rfl) ?_
        refine rw_p rfl rfl (y_extract rfl rfl) ?_
        refine rw_p rfl rfl (y_extract rfl rfl) ?_
        refine rw_p rfl rfl (y_assign rfl) ?_
        refine rw_p rfl rfl (y_assign rfl) ?_
        refine rw_done ?_
        refine gn_sq ?_
        refine HW_seq rfl ?_
        refine HW_text (.pure 0 (.pure 1 (.act 2 (.pure 3 (.pure 4 (.pure 5 (.pure 6 (.pure 7 .done)))))))) (by kernel_rfl) ?_
        refine rw_p rfl rfl (y_move rfl) ?_
        refine rw_p rfl rfl (y_move rfl) ?_
        refine a_call rfl rfl rfl go29 (q_read (Pl.wDv (Pl.nDv a c bs) i9 (List.replicate a 0)) mr _ _ (OwnZ.end (A := [_, _, _, _, _, _, _]) hm.ownZ) hy (by omega) i9) fun v w hR => ?_
        obtain ⟨p_t, cap_t, rfl, hR_t, hE⟩ := hR
        refine ⟨trivial, ?_⟩
        replace hm := hm.ext hE
        simp only [hcd1, if_true] at hR_t ⊢
        refine rw_p rfl rfl (y_move rfl) ?_
        refine rw_p rfl rfl (y_extract rfl rfl) ?_
        refine rw_p rfl rfl (y_extract rfl rfl) ?_
        refine rw_p rfl rfl (y_assign rfl) ?_
        refine rw_p rfl rfl (y_assign rfl) ?_
        refine rw_done ?_
        refine gn_sq ?_
        refine HW_seq rfl ?_
        refine HW_text (.pure 0 .done) (by kernel_rfl) ?_
        refine rw_p rfl rfl (y_assign rfl) ?_
        refine rw_done ?_
        refine gn_sq ?_
        refine HW_seq rfl ?_
        refine HW_text (.pure 0 (.act 1 .done)) (by kernel_rfl) ?_
        refine rw_p rfl rfl (y_move rfl) ?_
        refine a_call rfl rfl rfl go25 (d_armN 0 1 _) fun v w hR => ?_
        obtain ⟨rfl, hE⟩ := hR
        refine ⟨trivial, ?_⟩
        replace hm := hm.ext hE
        replace hR_t := hR_t.ext0 hE
        refine rw_done ?_
        refine gn_sq ?_
        refine HW_seq rfl ?_
        refine HW_text (.pure 0 (.act 1 .done)) (by kernel_rfl) ?_
        refine rw_p rfl rfl (y_move rfl) ?_
        refine a_call rfl rfl rfl go23 (d_restartN _) fun v w hR => ?_
        obtain ⟨rfl, hE⟩ := hR
        refine ⟨trivial, ?_⟩
        replace hm := hm.ext hE
        replace hR_t := hR_t.ext0 hE
        refine rw_done ?_
        refine gn_sq ?_
        refine HW_seq rfl ?_
        refine HW_text (.pure 0 (.act 1 (.pure 2 (.pure 3 (.pure 4 (.pure 5 (.pure 6 .done))))))) (by kernel_rfl) ?_
        refine rw_p rfl rfl (y_move rfl) ?_
        refine a_call rfl rfl rfl go24 (d_readN 0 _) fun v w hR => ?_
        obtain ⟨rfl, hE⟩ := hR
        refine ⟨trivial, ?_⟩
        replace hm := hm.ext hE
        replace hR_t := hR_t.ext0 hE
        refine rw_p rfl rfl (y_move rfl) ?_
        refine rw_p rfl rfl (y_extract rfl rfl) ?_
        refine rw_p rfl rfl (y_extract rfl rfl) ?_
        refine rw_p rfl rfl (y_assign rfl) ?_
        refine rw_p rfl rfl (y_assign rfl) ?_
        refine rw_done ?_
        refine gn_sq ?_
        refine HW_seq rfl ?_
        refine HW_draw (.act 0 (.pure 1 (.pure 2 (.pure 3 (.pure 4 (.pure 5 (.pure 6 (.pure 7 (.act 8 (.pure 9 (.pure 10 (.pure 11 (.pure 13 (.pure 14 (.pure 15 (.pure 16 (.act 12 (.act 17 (.pure 18 (.pure 19 (.pure 20 (.pure 21 (.pure 22 (.pure 23 (.pure 24 (.act 25 (.pure 26 (.pure 27 (.pure 28 (.pure 29 (.act 30 (.pure 31 (.pure 32 (.pure 33 (.pure 34 (.act 35 (.pure 36 (.pure 37 (.pure 38 (.pure 39 (.act 40 (.pure 41 (.pure 42 (.pure 43 (.pure 44 (.pure 45 (.act 46 (.pure 47 (.pure 48 (.pure 49 (.pure 50 (.act 51 (.pure 52 (.pure 53 (.pure 54 (.pure 55 (.pure 57 (.act 56 (.pure 58 (.pure 59 (.pure 60 .done))))))))))))))))))))))))))))))))))))))))))))))))))))))))))))) No mix (by kernel_rfl) hm fun w hw hm0 hh => ?_
        have hm := hm0
        obtain ⟨qB_, kB_, qC_, kC_, cs, hPy, hd9, hp9, hw9⟩ := hy.row (OwnZ.end (A := [_, _, _, _, _, _, _]) hm.ownZ)
        replace hR_t := hR_t.heap hw
        refine a_call rfl rfl rfl go8 (law_alive _) fun v w hR => ?_
        obtain ⟨rfl, hE⟩ := hR
        refine ⟨hh.ext hE, ?_⟩
        replace hm := hm.ext hE
        replace hh := hh.ext hE
        replace hR_t := hR_t.ext0 hE
        refine rw_p rfl rfl (y_move rfl) ?_
        refine rw_p rfl rfl (y_move rfl) ?_
        refine rw_p rfl rfl (y_as (c := true) (y_eq rfl rfl) (by rw [hwk9]; rfl)) ?_
        refine rw_p rfl rfl (y_pickT rfl rfl) ?_
        refine rw_p rfl rfl (y_move rfl) ?_
        refine rw_p rfl rfl (y_move rfl) ?_
        refine rw_p rfl rfl (y_move rfl) ?_
        refine a_call rfl rfl rfl go14 (C.as (v := .bool true) (eq_b p_v1 p_t cap_v1 cap_t (Pl.rdS (Pl.wDv (Pl.nDv a c bs) i9 (List.replicate a 0)) i9) (Pl.rdS (Pl.wDv (Pl.nDv a c bs) i9 (List.replicate a 0)) i9) _ (ha_v1.rd hm 0 rfl) hR_t (by omega) (by omega)) (congrArg Value.bool (decide_eq_true rfl))) fun v w hR => ?_
        obtain ⟨rfl, hE⟩ := hR
        refine ⟨hh.ext hE, ?_⟩
        replace hm := hm.ext hE
        replace hh := hh.ext hE
        refine rw_p rfl rfl (y_pickT rfl rfl) ?_
        refine rw_p rfl rfl (y_move rfl) ?_
        refine rw_p rfl rfl (y_move rfl) ?_
        refine rw_p rfl rfl (y_move rfl) ?_
        refine rw_p rfl rfl (y_nil rfl) ?_
        refine rw_p rfl rfl (y_fieldAddr rfl fo48_2) ?_
        refine rw_p rfl rfl (y_load rfl sc24 (fun u hu => (Ext.same hu _ (Array.getElem?_eq_some_iff.1 hPy).1 id).trans hPy) rfl) ?_
        refine a_call rfl rfl rfl go13 (o_disk (Pl.wDv (Pl.nDv a c bs) i9 (List.replicate a 0)) m _ _ (OwnZ.mid (A := [_, _, _, _, _, _, _]) hm.ownZ) hz) fun v w hR => ?_
        obtain ⟨p_w1, cap_w1, g_w1, b_w1, rfl, ha_w1, hmc⟩ := hR
        refine ⟨hh.ext hmc.to, ?_⟩
        have hg_w1 : b_w1.real = true → _ := fun hr => (hmc.fresh _ List.mem_cons_self hr).resolve_left id
        replace hh := hh.ext hmc.to
        replace hm := hm.callN hmc
        refine a_call rfl rfl rfl go14 (C.as (v := .bool true) (eq_b p_w1 qB_ cap_w1 kB_ (Pl.wDv (Pl.nDv a c bs) i9 (List.replicate a 0)).dk (Pl.wDv (Pl.nDv a c bs) i9 (List.replicate a 0)).dk _ (ha_w1.rd hm 0 rfl) (hd9.rd (hm.pickT [] 8 rfl) (fun e he => show e ∈ Zw ++ Zr from List.mem_append_right _ he)) (by omega) (by omega)) (congrArg Value.bool (decide_eq_true rfl))) fun v w hR => ?_
        obtain ⟨rfl, hE⟩ := hR
        refine ⟨hh.ext hE, ?_⟩
        replace hm := hm.ext hE
        replace hh := hh.ext hE
        refine rw_p rfl rfl (y_pickT rfl rfl) ?_
        refine rw_p rfl rfl (y_move rfl) ?_
        refine rw_p rfl rfl (y_move rfl) ?_
        refine rw_p rfl rfl (y_as (c := true) (y_eq rfl rfl) (by decide)) ?_
        refine rw_p rfl rfl (y_pickT rfl rfl) ?_
        refine rw_p rfl rfl (y_move rfl) ?_
        refine rw_p rfl rfl (y_move rfl) ?_
        refine a_call rfl rfl rfl go26 (d_writeN 0 none 0 0 _) fun v w hR => ?_
        obtain ⟨rfl, hE⟩ := hR
        refine ⟨hh.ext hE, ?_⟩
        replace hm := hm.ext hE
        replace hh := hh.ext hE
        refine rw_p rfl rfl (y_as (c := true) (y_eq rfl rfl) (by decide)) ?_
        refine rw_p rfl rfl (y_pickT rfl rfl) ?_
        refine rw_p rfl rfl (y_move rfl) ?_
        refine rw_p rfl rfl (y_move rfl) ?_
        refine a_call rfl rfl rfl go21 (d_flushN _) fun v w hR => ?_
        obtain ⟨rfl, hE⟩ := hR
        refine ⟨hh.ext hE, ?_⟩
        replace hm := hm.ext hE
        replace hh := hh.ext hE
        refine rw_p rfl rfl (y_as (c := true) (y_eq rfl rfl) (by decide)) ?_
        refine rw_p rfl rfl (y_pickT rfl rfl) ?_
        refine rw_p rfl rfl (y_move rfl) ?_
        refine rw_p rfl rfl (y_move rfl) ?_
        refine a_call rfl rfl rfl go20 (d_downN _) fun v w hR => ?_
        obtain ⟨rfl, hE⟩ := hR
        refine ⟨hh.ext hE, ?_⟩
        replace hm := hm.ext hE
        replace hh := hh.ext hE
        refine rw_p rfl rfl (y_not rfl) ?_
        refine rw_p rfl rfl (y_pickT rfl rfl) ?_
        refine rw_p rfl rfl (y_move rfl) ?_
        refine rw_p rfl rfl (y_move rfl) ?_
        refine a_call rfl rfl rfl go13 (d_diskN _) fun v w hR => ?_
        obtain ⟨rfl, hE⟩ := hR
        refine ⟨hh.ext hE, ?_⟩
        replace hm := hm.ext hE
        replace hh := hh.ext hE
        refine rw_p rfl rfl (y_len rfl rfl sl24) ?_
        refine rw_p rfl rfl (y_as (c := true) (y_eq rfl rfl) (by decide)) ?_
        refine rw_p rfl rfl (y_pickT rfl rfl) ?_
        refine rw_p rfl rfl (y_move rfl) ?_
        refine rw_p rfl rfl (y_move rfl) ?_
        refine a_call rfl rfl rfl go11 (d_sizeN _) fun v w hR => ?_
        obtain ⟨rfl, hE⟩ := hR
        refine ⟨hh.ext hE, ?_⟩
        replace hm := hm.ext hE
        replace hh := hh.ext hE
        refine rw_p rfl rfl (y_as (c := true) (y_eq rfl rfl) (by decide)) ?_
        refine rw_p rfl rfl (y_pickT rfl rfl) ?_
        refine rw_p rfl rfl (y_move rfl) ?_
        refine rw_p rfl rfl (y_move rfl) ?_
        refine a_call rfl rfl rfl go12 (d_sectorsN _) fun v w hR => ?_
        obtain ⟨rfl, hE⟩ := hR
        refine ⟨hh.ext hE, ?_⟩
        replace hm := hm.ext hE
        replace hh := hh.ext hE
        refine rw_p rfl rfl (y_as (c := true) (y_eq rfl rfl) (by decide)) ?_
        refine rw_p rfl rfl (y_pickT rfl rfl) ?_
        refine rw_p rfl rfl (y_move rfl) ?_
        refine rw_p rfl rfl (y_move rfl) ?_
        refine rw_p rfl rfl (y_build (cs := [_, _, _, _, _]) z58 ft58 rfl rfl rfl rfl rfl) ?_
        refine a_call rfl rfl rfl go27 (d_statsN _) fun v w hR => ?_
        obtain ⟨rfl, hE⟩ := hR
        refine ⟨hh.ext hE, ?_⟩
        replace hm := hm.ext hE
        replace hh := hh.ext hE
        refine rw_p rfl rfl (y_as (c := true) (y_eqF rfl rfl fl58 rfl rfl) (by decide)) ?_
        refine rw_p rfl rfl (y_pickT rfl rfl) ?_
        refine rw_p rfl rfl (y_assign rfl) ?_
        refine rw_done ?_
        refine gn_sq ?_
        refine HW_ret rfl ?_
        refine toR (fin hret rfl (.tmp rfl .nil) .one ?_)
        exact ⟨rfl, hm.to⟩

end Go.Proofs.Ythokcfkcamcapaa
