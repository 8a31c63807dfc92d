/- Contracts of functions of the program: what each returns. Conditions: the hypotheses of each theorem. -/
import Derived.Test.YthailbggeafckaaJnK
set_option linter.unusedVariables false
set_option linter.unusedSimpArgs false
namespace Go.Proofs.Ythailbggeafckaa
open Go Go.Cx

theorem ag29 : aggS Try.prog 29 = some 6 := by kernel_rfl
theorem ar62 : arrO Try.prog 62 = some (2, 5, 1) := by kernel_rfl
theorem fo29_3 : fldO Try.prog 29 3 = some 3 := by kernel_rfl
theorem fo29_4 : fldO Try.prog 29 4 = some 4 := by kernel_rfl
theorem fo29_5 : fldO Try.prog 29 5 = some 5 := by kernel_rfl
theorem fo31_0 : fldO Try.prog 31 0 = some 0 := by kernel_rfl
theorem fo31_1 : fldO Try.prog 31 1 = some 1 := by kernel_rfl
theorem go11 : isGo Try.prog 11 = true := by kernel_rfl
theorem go12 : isGo Try.prog 12 = true := by kernel_rfl
theorem go19 : isGo Try.prog 19 = true := by kernel_rfl
theorem go21 : isGo Try.prog 21 = true := by kernel_rfl
theorem go22 : isGo Try.prog 22 = true := by kernel_rfl
theorem go23 : isGo Try.prog 23 = true := by kernel_rfl
theorem go24 : isGo Try.prog 24 = true := by kernel_rfl
theorem go25 : isGo Try.prog 25 = true := by kernel_rfl
theorem go26 : isGo Try.prog 26 = true := by kernel_rfl
theorem go27 : isGo Try.prog 27 = true := by kernel_rfl
theorem pb33 : ptrB Try.prog 33 = true := by kernel_rfl
theorem un4 : Try.prog.underlying 4 = some .bool := by kernel_rfl
theorem go28 : isGo Try.prog 28 = true := by kernel_rfl

theorem JI_la {C0 : List UInt8} {f N sz cnt : Nat} {b k : Int} {D : Pl.Dv} {S : Pl.Jn} {kn : List Pl.Rc} (h : Pl.JI C0 f N b k sz cnt D S kn) : S.la.bs.length ≤ 200 ∧ 0 ≤ S.nx ∧ S.nx ≤ (kn.length : Int) + 1 := by
  obtain ⟨n, hn, hx, ⟨n0, n1, n2, n3, n4⟩ | ⟨n0, n1, n2, n3, n4, o, n5, n6⟩⟩ := h.nn
  · rw [n2]; exact ⟨by decide, by omega, by omega⟩
  · exact ⟨n2.2.2.2.1, by omega, by omega⟩

set_option maxHeartbeats 6400000 in
theorem law_crashes (u1 u2 : Int) (pb : Option Addr) (cb : Nat) (bs : List UInt8) (f b k : Int) (q : Option Addr) (cq : Nat) (xs : List EnV) (c0 c1 : UInt8) (w0 : World) (hbk : SB.ok w0 ⟨pb, cb, bs⟩) (hu1 : Pl.I64 u1) (hu2 : Pl.I64 u2) (hf : Pl.I64 f) (hb : Pl.I64 b) (hk : 0 ≤ k ∧ k ≤ 18446744073709551615) (hq : Rd w0 q (xs.flatMap encEn)) (hxs : ∀ x ∈ xs, okEn w0 x) (hlq : xs.length ≤ cq) (hcq : cq ≤ 9223372036854775807) : C Try.prog 6 [.agg ⟨[.int .i64 u1, .int .i64 u2, .slice pb bs.length cb, .int .i64 f, .int .i64 b, .int .u64 k]⟩, .slice q xs.length cq, .agg ⟨[.int .u8 (c0.toNat : Int), .int .u8 (c1.toNat : Int)]⟩] w0 fun v w' => v = .bool true ∧ Ext No w0 w' := by
  simp only [Pl.I64] at hu1 hu2
  have hbl := hbk.le
  have hbm := hbk.max
  simp only at hbl hbm
  have hc1l := c1.toNat_lt
  have hn40 : IntKind.i64.wrap ((c0.toNat : Int).tmod 40) = ((c0.toNat % 40 : Nat) : Int) := by rw [show ((c0.toNat : Int).tmod 40) = ((c0.toNat % 40 : Nat) : Int) from rfl]; exact i64w (by omega) (by omega)
  refine C_of Try.func6 rfl rfl rfl fun κ hret hnorm => ?_
  have hm := Mem.start w0
  refine HW_seq rfl ?_
  refine HW_text (.act 0 (.act 1 (.pure 2 .done))) (by kernel_rfl) ?_
  refine a_box rfl rfl rfl rfl hm trivial fun m1 w hg_m1 hm hh => ?_
  refine a_box rfl rfl rfl rfl hm trivial fun m2 w hg_m2 hm hh => ?_
  refine rw_p rfl rfl (y_assign rfl) ?_
  refine rw_done ?_
  refine gn_sq ?_
  refine HW_seq rfl ?_
  by_cases hmk : Pl.right u1 u2 bs.length = true ∧ u1 * u2 ≤ 2000
  ·
    obtain ⟨hrt, h2k⟩ := hmk
    obtain ⟨h1, h2, h3, h4⟩ := Pl.right_of hrt
    obtain ⟨a, rfl⟩ : ∃ a : Nat, u1 = a := ⟨u1.toNat, by omega⟩
    obtain ⟨c, rfl⟩ : ∃ c : Nat, u2 = c := ⟨u2.toNat, by omega⟩
    have hac : (a : Int) * (c : Int) = ((c * a : Nat) : Int) := by rw [Nat.mul_comm]; norm_cast
    rw [hac] at h2k h3 h4
    have hca : 1 ≤ c * a := Nat.mul_pos (by omega) (by omega)
    have ha9 : a ≤ c * a := Nat.le_mul_of_pos_left _ (by omega)
    have hc9 : c ≤ c * a := Nat.le_mul_of_pos_right _ (by omega)
    clear h1 h2
    refine HW_text (.pure 0 (.act 1 (.pure 2 (.pure 3 (.pure 4 (.pure 5 (.pure 6 .done))))))) (by kernel_rfl) ?_
    refine rw_p rfl rfl (y_loadA (s := 6) (vs := [_, _, _, _, _, _]) rfl ag29 (hm.nt 1 rfl) rfl) ?_
    refine a_call rfl rfl rfl go11 (dv_ok a c pb cb bs f b k _ (hbk.ext hm.to) hrt (by omega)) fun v w hR => ?_
    obtain ⟨m, mr, Zw, Zr, rfl, hz, hy, hmc⟩ := hR
    refine ⟨trivial, ?_⟩
    replace hm := hm.callTZ hmc
    refine rw_p rfl rfl (y_move rfl) ?_
    refine rw_p rfl rfl (y_extract rfl rfl) ?_
    refine rw_p rfl rfl (y_extract rfl rfl) ?_
    refine rw_p rfl rfl (y_assign rfl) ?_
    refine rw_p rfl rfl (y_assign rfl) ?_
    refine rw_done ?_
    refine gn_sq ?_
    refine HW_seq rfl ?_
    refine HW_seq rfl ?_
    cases hfw : fewB xs
    ·
      refine HW_text (.pure 0 (.pure 1 (.pure 2 (.pure 3 (.act 4 (.pure 5 (.pure 6 (.pure 7 (.pure 8 (.pure 9 (.pure 10 (.pure 11 (.pure 12 (.act 13 (.pure 14 (.pure 15 .done)))))))))))))))) (by kernel_rfl) ?_
      refine rw_p rfl rfl (y_move rfl) ?_
      refine rw_p rfl rfl (y_pnil rfl rfl pb33) ?_
      refine rw_p rfl rfl (y_move rfl) ?_
      refine rw_p rfl rfl (y_move rfl) ?_
      refine a_call rfl rfl rfl go23 (C.as (v := .bool false) (law_few q cq xs _ (hq.ext0 hm.to) (by omega)) (congrArg Value.bool hfw)) fun v w hR => ?_
      obtain ⟨rfl, hE⟩ := hR
      refine ⟨trivial, ?_⟩
      replace hm := hm.ext hE
      refine rw_p rfl rfl (y_not rfl) ?_
      refine rw_p rfl rfl (y_pickF rfl rfl) ?_
      refine rw_p rfl rfl (y_move rfl) ?_
      refine rw_gf rfl rfl (by decide) rfl ?_
      refine rw_gf rfl rfl (by decide) rfl ?_
      refine rw_gf rfl rfl (by decide) rfl ?_
      refine rw_gf rfl rfl (by decide) rfl ?_
      refine rw_gf rfl rfl (by decide) rfl ?_
      refine a_gf rfl rfl (by decide) rfl trivial ?_
      refine rw_gf rfl rfl (by decide) rfl ?_
      refine rw_p rfl rfl (y_pickT rfl rfl) ?_
      refine rw_done ?_
      refine gn_sq ?_
      refine HW_condT rfl rfl rfl ?_
      refine HW_seq rfl ?_
      refine HW_text (.act 0 (.pure 1 .done)) (by kernel_rfl) ?_
      refine a_call rfl rfl rfl go9 (law_alive _) fun v w hR => ?_
      obtain ⟨rfl, hE⟩ := hR
      refine ⟨trivial, ?_⟩
      replace hm := hm.ext hE
      refine rw_p rfl rfl (y_assign rfl) ?_
      refine rw_done ?_
      refine gn_sq ?_
      refine HW_ret rfl ?_
      refine gr_sq ?_
      refine toR (fin hret rfl (.tmp rfl .nil) .one ?_)
      exact ⟨rfl, hm.to⟩
    ·
      refine HW_text (.pure 0 (.pure 1 (.pure 2 (.pure 3 (.act 4 (.pure 5 (.pure 6 (.pure 7 (.pure 8 (.pure 9 (.pure 10 (.pure 11 (.pure 12 (.act 13 (.pure 14 (.pure 15 .done)))))))))))))))) (by kernel_rfl) ?_
      refine rw_p rfl rfl (y_move rfl) ?_
      refine rw_p rfl rfl (y_pnil rfl rfl pb33) ?_
      refine rw_p rfl rfl (y_move rfl) ?_
      refine rw_p rfl rfl (y_move rfl) ?_
      refine a_call rfl rfl rfl go23 (C.as (v := .bool true) (law_few q cq xs _ (hq.ext0 hm.to) (by omega)) (congrArg Value.bool hfw)) fun v w hR => ?_
      obtain ⟨rfl, hE⟩ := hR
      refine ⟨trivial, ?_⟩
      replace hm := hm.ext hE
      refine rw_p rfl rfl (y_not rfl) ?_
      refine rw_p rfl rfl (y_pickF rfl rfl) ?_
      refine rw_p rfl rfl (y_move rfl) ?_
      refine rw_p rfl rfl (y_move rfl) ?_
      refine rw_p rfl rfl (y_fieldAddr rfl fo29_3) ?_
      refine rw_p rfl rfl (y_load rfl sc3 (hm.nt 1 rfl) rfl) ?_
      refine rw_p rfl rfl (y_fieldAddr rfl fo29_4) ?_
      refine rw_p rfl rfl (y_load rfl sc3 (hm.nt 1 rfl) rfl) ?_
      refine a_call rfl rfl rfl go12 (r22_check (Pl.nDv a c bs) mr Zr _ (OwnZ.end (A := [_, _]) hm.ownZ) hy f b hf hb) fun v w hR => ?_
      obtain ⟨rfl, hE⟩ := hR
      refine ⟨trivial, ?_⟩
      replace hm := hm.ext hE
      refine rw_p rfl rfl (y_ne rfl rfl) ?_
      refine rw_p rfl rfl (y_pickF rfl rfl) ?_
      refine rw_done ?_
      refine gn_sq ?_
      refine HW_cond rfl rfl (fun hc0 => ?_) (fun hc0 => ?_)
      ·
        refine HW_seq rfl ?_
        refine HW_text (.act 0 (.pure 1 .done)) (by kernel_rfl) ?_
        refine a_call rfl rfl rfl go9 (law_alive _) fun v w hR => ?_
        obtain ⟨rfl, hE⟩ := hR
        refine ⟨trivial, ?_⟩
        replace hm := hm.ext hE
        refine rw_p rfl rfl (y_assign rfl) ?_
        refine rw_done ?_
        refine gn_sq ?_
        refine HW_ret rfl ?_
        refine gr_sq ?_
        refine toR (fin hret rfl (.tmp rfl .nil) .one ?_)
        exact ⟨rfl, hm.to⟩
      ·
        simp only [decide_eq_false_iff_not, Decidable.not_not] at hc0
        have hck := hc0
        obtain ⟨F, N, rfl, hN, h0, h2⟩ := Pl.jcheck_ok hck
        replace hN : Pl.slot (a : Int) b = (N : Int) := hN
        replace h2 : F + 2 * N ≤ c := h2
        have hok0 : Pl.okDv (Pl.nDv a c bs) := hz.ok
        have hu := Pl.jfm_up (f := F) (N := N) hok0 rfl (show (-1 : Int) < 0 by decide) h2 (show 0 + c ≤ 1000000000 by omega) (Int.le_refl 0) (show (0 : Int) + (c : Int) ≤ 4611686018427387903 by omega)
        obtain ⟨⟨e9, E⟩, hE9⟩ : ∃ x : Int × Pl.Dv, Pl.jfm (Pl.nDv a c bs) F N = x := ⟨_, rfl⟩
        rw [hE9] at hu
        obtain ⟨he9, hJ⟩ := hu
        simp only at he9 hJ
        subst he9
        have hNE : Pl.slot (E.sz : Int) b = (N : Int) := by rw [hJ.sz]; exact hN
        have h2E : F + 2 * N ≤ E.cnt := by rw [hJ.cnt]; exact h2
        have hfit := Pl.slot_fit hN h0
        have hfw9 := hfw
        unfold fewB at hfw9
        simp only [Bool.and_eq_true, decide_eq_true_eq, List.all_eq_true] at hfw9
        have hcast : ((N * a : Nat) : Int) = (N : Int) * (a : Int) := Int.natCast_mul N a
        replace hm := Mem.dropR (A := [_, _]) hm
        replace hz : DevZ 100 144 5 (Pl.nDv a c bs) m Zw := hz
        refine HW_skip rfl ?_
        refine gn_sq ?_
        refine HW_seq rfl ?_
        refine HW_seq rfl ?_
        refine HW_text (.pure 0 (.pure 1 (.pure 2 (.pure 3 (.pure 4 (.act 5 (.pure 6 .done))))))) (by kernel_rfl) ?_
        refine rw_p rfl rfl (y_move rfl) ?_
        refine rw_p rfl rfl (y_fieldAddr rfl fo29_3) ?_
        refine rw_p rfl rfl (y_load rfl sc3 (hm.nt 1 rfl) rfl) ?_
        refine rw_p rfl rfl (y_fieldAddr rfl fo29_4) ?_
        refine rw_p rfl rfl (y_load rfl sc3 (hm.nt 1 rfl) rfl) ?_
        refine a_call rfl rfl rfl go19 (j_format (Pl.nDv a c bs) m Zw _ (OwnZ.right (A := [_, _]) hm.ownZ) hz F N b hb hN h0 h2 (show 0 + c ≤ 1000000000 by omega)) fun v w hR => ?_
        obtain ⟨rfl, Z, hz, hmc⟩ := hR
        refine ⟨trivial, ?_⟩
        replace hm := Mem.callZL (A := [_, _]) hm hmc
        rw [hE9] at hz ⊢
        simp only at hz ⊢
        refine rw_p rfl rfl (y_as (c := false) (y_ne rfl rfl) (by decide)) ?_
        refine rw_done ?_
        refine gn_sq ?_
        refine HW_condF rfl rfl rfl ?_
        refine HW_skip rfl ?_
        refine gn_sq ?_
        refine HW_seq rfl ?_
        refine HW_text (.pure 0 (.pure 1 (.pure 2 (.pure 3 (.pure 4 (.pure 5 (.pure 6 (.act 7 (.pure 8 (.pure 9 (.pure 10 (.pure 11 (.pure 12 .done))))))))))))) (by kernel_rfl) ?_
        refine rw_p rfl rfl (y_move rfl) ?_
        refine rw_p rfl rfl (y_fieldAddr rfl fo29_3) ?_
        refine rw_p rfl rfl (y_load rfl sc3 (hm.nt 1 rfl) rfl) ?_
        refine rw_p rfl rfl (y_fieldAddr rfl fo29_4) ?_
        refine rw_p rfl rfl (y_load rfl sc3 (hm.nt 1 rfl) rfl) ?_
        refine rw_p rfl rfl (y_fieldAddr rfl fo29_5) ?_
        refine rw_p rfl rfl (y_load rfl sc27 (hm.nt 1 rfl) rfl) ?_
        refine a_call rfl rfl rfl go13 (j_open E m Z _ (OwnZ.right (A := [_, _]) hm.ownZ) hz F N b hb hNE h0 h2E k hJ.dn) fun v w hR => ?_
        obtain ⟨j, Zj, rfl, hj, hmc⟩ := hR
        refine ⟨trivial, ?_⟩
        obtain ⟨p_x, c_x, g_x, b_x, rfl, ha_x⟩ := hj
        replace hm := hm.callN hmc
        have hjo : Pl.jopen E F N k = (⟨1, false, Pl.rc0⟩ : Pl.Jn) := by unfold Pl.jopen; rw [Pl.jfm_none hJ (by omega) h2]; rfl
        obtain ⟨S0, hS0⟩ : ∃ S, Pl.jopen E F N k = S := ⟨_, rfl⟩
        rw [hS0] at hm ha_x
        obtain rfl : S0 = (⟨1, false, Pl.rc0⟩ : Pl.Jn) := hS0.symm.trans hjo
        refine rw_p rfl rfl (y_move rfl) ?_
        refine rw_p rfl rfl (y_extract rfl rfl) ?_
        refine rw_p rfl rfl (y_extract rfl rfl) ?_
        refine rw_p rfl rfl (y_assign rfl) ?_
        refine rw_p rfl rfl (y_assign rfl) ?_
        refine rw_done ?_
        refine gn_sq ?_
        refine HW_seq rfl ?_
        refine HW_seq rfl ?_
        refine HW_text (.pure 0 (.pure 1 .done)) (by kernel_rfl) ?_
        refine rw_p rfl rfl (y_move rfl) ?_
        refine rw_p rfl rfl (y_pnil rfl rfl pb37) ?_
        refine rw_done ?_
        refine gn_sq ?_
        refine HW_condF rfl rfl rfl ?_
        refine HW_skip rfl ?_
        refine gn_sq ?_
        refine HW_seq rfl ?_
        refine HW_text (.pure 0 (.act 1 (.pure 2 .done))) (by kernel_rfl) ?_
        refine rw_p rfl rfl (y_move rfl) ?_
        refine a_call rfl rfl rfl go22 (o_disk E m Z _ (OwnZ.right (A := [_, _, _, _]) hm.ownZ) hz) fun v w hR => ?_
        obtain ⟨p_v, cap_v, g_v, b_v, rfl, ha_v, hmc⟩ := hR
        refine ⟨trivial, ?_⟩
        have hg_v : b_v.real = true → _ := fun hr => (hmc.fresh _ List.mem_cons_self hr).resolve_left id
        replace hm := hm.callN hmc
        refine rw_p rfl rfl (y_assign rfl) ?_
        refine rw_done ?_
        refine gn_sq ?_
        refine HW_seq rfl ?_
        refine HW_text (.pure 0 (.pure 1 (.pure 2 (.pure 3 (.pure 4 (.pure 5 (.pure 6 (.pure 7 (.act 8 .done))))))))) (by kernel_rfl) ?_
        refine rw_p rfl rfl (y_move rfl) ?_
        refine rw_p rfl rfl (y_indexP rfl rfl ar62 (by omega) (by omega)) ?_
        refine rw_p rfl rfl (y_load rfl sc5 (hm.nt 3 rfl) rfl) ?_
        refine rw_p rfl rfl (y_rem rfl rfl (by omega) rfl) ?_
        refine rw_p rfl rfl (y_conv rfl is5 it3 hn40) ?_
        refine rw_p rfl rfl (y_indexP rfl rfl ar62 (by omega) (by omega)) ?_
        refine rw_p rfl rfl (y_load rfl sc5 (hm.nt 3 rfl) rfl) ?_
        refine rw_p rfl rfl (y_conv rfl is5 it27 (u64w (by omega) (by omega))) ?_
        refine a_call rfl rfl rfl go24 (o_arm E m Z _ (OwnZ.right (A := [_, _, _, _, _]) hm.ownZ) hz ((c0.toNat % 40 : Nat) : Int) (c1.toNat : Int) (by simp only [Pl.I64]; omega) (by omega)) fun v w hR => ?_
        obtain ⟨rfl, Z, hz, hmc⟩ := hR
        refine ⟨trivial, ?_⟩
        replace hm := Mem.callZL (A := [_, _, _, _, _]) hm hmc
        have hJI := (Pl.JI.start (b := b) (k := k) hJ).arm (n := ((c0.toNat % 40 : Nat) : Int)) (p := (c1.toNat : Int)) (by simp only [Pl.I64]; omega) (by omega)
        refine rw_done ?_
        refine gn_sq ?_
        refine HW_seq rfl ?_
        refine HW_text (.pure 0 (.act 1 (.pure 2 (.pure 3 (.pure 4 (.act 5 (.act 6 (.pure 7 .done)))))))) (by kernel_rfl) ?_
        refine rw_p rfl rfl (y_move rfl) ?_
        refine a_call rfl rfl rfl go15 (j_last m F b k (⟨1, false, Pl.rc0⟩ : Pl.Jn) j _ _ ((hm.pick [1, 2] rfl)).ownZ ⟨p_x, c_x, g_x, b_x, rfl, ha_x⟩ (by decide)) fun v w hR => ?_
        obtain ⟨p_z, cap_z, g_z, b_z, rfl, ha_z, hmc⟩ := hR
        refine ⟨trivial, ?_⟩
        have hg_z : b_z.real = true → _ := fun hr => (hmc.fresh _ List.mem_cons_self hr).resolve_left id
        replace hm := hm.callN hmc
        refine rw_p rfl rfl (y_move rfl) ?_
        refine rw_p rfl rfl (y_extract rfl rfl) ?_
        refine rw_p rfl rfl (y_extract rfl rfl) ?_
        refine a_alloc rfl rfl z43 hm trivial fun m3 w hg_m3 hm hh => ?_
        refine a_store rfl rfl rfl rfl sz43 rfl hm 0 rfl rfl fun w hm => ?_
        refine rw_p rfl rfl (y_assign rfl) ?_
        refine rw_done ?_
        refine gn_sq ?_
        refine HW_seq rfl ?_
        refine HW_text (.pure 0 (.act 1 (.act 2 .done))) (by kernel_rfl) ?_
        refine rw_p rfl rfl (y_build (cs := [_, _, _, _, _]) z43 ft43 rfl rfl rfl rfl rfl) ?_
        refine a_alloc rfl rfl z43 hm trivial fun m4 w hg_m4 hm hh => ?_
        refine a_store rfl rfl rfl rfl sz43 rfl hm 0 rfl rfl fun w hm => ?_
        refine rw_done ?_
        refine gn_sq ?_
        refine HW_seq rfl ?_
        refine HW_text (.pure 0 .done) (by kernel_rfl) ?_
        refine rw_p rfl rfl (y_assign rfl) ?_
        replace hm := hm.gapIn
        have ha_s := Acc.nil 43 5 none 0
        refine rw_done ?_
        refine gn_sq ?_
        refine HW_via (ι := CrS) rfl (ks := [1, 3, 6, 7, 9, 11, 12, 14]) (.cons rfl (.cons rfl (.cons rfl (.cons rfl (.cons rfl (.cons rfl (.cons rfl (.cons rfl .nil)))))))) (fun y => [(15, .slice y.sp y.kn.length y.sc), (13, .bool y.S.has)]) (fun y w => Mem w0 w No ((y.sg, y.sb) :: (m4, .row 43 (rcV y.nr y.np y.nr.bs.length y.nc)) :: (m3, .row 43 (rcV (Pl.jla y.S) y.zp (Pl.jla y.S).bs.length y.zc)) :: (y.zg, y.zb) :: (g_v, b_v) :: (m2, .row 62 [.int .u8 (c0.toNat : Int), .int .u8 (c1.toNat : Int)]) :: (m1, .row 29 [.int .i64 (a : Int), .int .i64 (c : Int), .slice pb bs.length cb, .int .i64 (F : Int), .int .i64 b, .int .u64 k]) :: y.Z) ∧ Acc 43 5 y.sp y.kn.length y.sc (y.kn.flatMap encR) y.sg y.sb ∧ Acc 5 1 y.zp (Pl.jla y.S).bs.length y.zc ((Pl.jla y.S).bs.flatMap encB) y.zg y.zb ∧ DevZ 100 144 5 y.D m y.Z ∧ Pl.JFin E.dk F N k a c y.D y.S y.nr (y.kn.map RcV.rc) ∧ (∀ r9 ∈ y.kn, Rd w0 r9.d.p (r9.d.bs.flatMap encB)) ∧ Rd w0 y.np (y.nr.bs.flatMap encB) ∧ y.D.ca.length ≤ 1000000000 ∧ y.kn.length ≤ 1000) ?_ (fun y w hM => ?_)
        ·
          refine HW_seq rfl ?_
          refine HW_text (.pure 0 (.pure 1 (.pure 2 .done))) (by kernel_rfl) ?_
          refine rw_p rfl rfl (y_move rfl) ?_
          refine rw_p rfl rfl (y_len rfl rfl sl61) ?_
          refine rw_p rfl rfl (y_move rfl) ?_
          refine rw_done ?_
          refine gn_sq ?_
          refine HW_block rfl ?_
          refine HW_loopK (ι := CrS) rfl (ks := [1, 3, 6, 7, 9, 11, 12, 14, 87, 88]) (.cons rfl (.cons rfl (.cons rfl (.cons rfl (.cons rfl (.cons rfl (.cons rfl (.cons rfl (.cons rfl (.cons rfl .nil)))))))))) (fun x => [(89, .int .i64 x.i), (15, .slice x.sp x.kn.length x.sc), (13, .bool x.S.has)]) (fun x w => Mem w0 w No ((x.sg, x.sb) :: (m4, .row 43 (rcV x.nr x.np x.nr.bs.length x.nc)) :: (m3, .row 43 (rcV (Pl.jla x.S) x.zp (Pl.jla x.S).bs.length x.zc)) :: (x.zg, x.zb) :: (g_v, b_v) :: (m2, .row 62 [.int .u8 (c0.toNat : Int), .int .u8 (c1.toNat : Int)]) :: (m1, .row 29 [.int .i64 (a : Int), .int .i64 (c : Int), .slice pb bs.length cb, .int .i64 (F : Int), .int .i64 b, .int .u64 k]) :: (j, .row 79 (jrow (.pointer (some ⟨m, 0, none⟩)) (F : Int) b k x.S x.jp x.jc)) :: (x.jg, x.jb) :: x.Z) ∧ Acc 43 5 x.sp x.kn.length x.sc (x.kn.flatMap encR) x.sg x.sb ∧ Acc 5 1 x.jp x.S.la.bs.length x.jc (x.S.la.bs.flatMap encB) x.jg x.jb ∧ Acc 5 1 x.zp (Pl.jla x.S).bs.length x.zc ((Pl.jla x.S).bs.flatMap encB) x.zg x.zb ∧ DevZ 100 144 5 x.D m x.Z ∧ Pl.JI E.dk F N b k a c x.D x.S (x.kn.map RcV.rc) ∧ (∀ r9 ∈ x.kn, Rd w0 r9.d.p (r9.d.bs.flatMap encB)) ∧ Rd w0 x.np (x.nr.bs.flatMap encB) ∧ x.i ≤ xs.length ∧ x.kn.length = x.i) (fun x => xs.length - x.i) ⟨0, none, 0, 0, .gap, [], Pl.aDv E ((c0.toNat % 40 : Nat) : Int) (c1.toNat : Int), (⟨1, false, Pl.rc0⟩ : Pl.Jn), Z, p_x, c_x, g_x, b_x, p_z, cap_z, g_z, b_z, Pl.rc0, none, 0⟩ (⟨(hm.pickT [0, 1, 2, 3, 4, 7, 8, 5, 6] 9 rfl), ha_s, ha_x, ha_z, hz, hJI, (by simp), (show Rd _ none (([] : List UInt8).flatMap encB) from rfl), Nat.zero_le _, rfl⟩) ⟨rfl, rfl, rfl, trivial⟩ (fun x w hM => ?_)
          obtain ⟨i, p_s, cap_s, g_s, b_s, kn, D, S, Z, p_x, c_x, g_x, b_x, p_z, cap_z, g_z, b_z, nr, np, nc⟩ := x
          obtain ⟨hm, ha_s, ha_x, ha_z, hz, hI, hrd, hnp, hk9, hkn⟩ := hM
          simp only at hm ha_s ha_x ha_z hz hI hrd hnp hk9 hkn ⊢
          refine HW_seq rfl ?_
          refine HW_text (.pure 0 .done) (by kernel_rfl) ?_
          refine rw_p rfl rfl (y_lt rfl rfl) ?_
          refine rw_done ?_
          refine gn_sq ?_
          refine HW_seq rfl ?_
          refine HW_cond rfl rfl (fun hc3 => ?_) (fun hc3 => ?_)
          ·
            simp only [decide_eq_true_eq] at hc3
            obtain ⟨e, hi⟩ : ∃ y_, xs[i]? = some y_ := ⟨_, List.getElem?_eq_getElem (by omega)⟩
            have he := hxs e (List.mem_of_getElem? hi)
            have hel := hfw9.2 e (List.mem_of_getElem? hi)
            obtain ⟨qb, qo, rfl⟩ := hq.atI encEn_len (by decide) hi
            have hla := JI_la hI
            have hmap : (kn.map RcV.rc).length = i := by rw [List.length_map]; exact hkn
            have hND : Pl.slot (D.sz : Int) b = (N : Int) := by rw [hI.hsz]; exact hN
            have h2D : F + 2 * N ≤ D.cnt := by rw [hI.hcnt]; exact h2
            have hst := hI.step (r := (Pl.jmk S k e.cu e.of e.d.bs)) h2 (by omega) (by omega) (show b + 44 ≤ (N : Int) * (a : Int) from hfit.2.2.2.1) ⟨(show 0 ≤ S.nx ∧ S.nx ≤ 18446744073709551615 by omega), hk, he.1, he.2.1⟩ hel rfl rfl (by omega)
            refine HW_skip rfl ?_
            refine gn_sq ?_
            refine HW_seq rfl ?_
            refine HW_block rfl ?_
            refine HW_seq rfl ?_
            refine HW_text (.pure 0 (.pure 1 (.act 2 (.act 3 .done)))) (by kernel_rfl) ?_
            refine rw_p rfl rfl (y_index rfl rfl sl61 rfl (by omega) (by omega)) ?_
            refine rw_p rfl rfl (y_elA rfl ag31 (hq.ext0 hm.to).nt encEn_len hi) ?_
            refine a_alloc rfl rfl z31 hm trivial fun m5 w hg_m5 hm hh => ?_
            refine a_store rfl rfl rfl rfl sz31 rfl hm 0 rfl rfl fun w hm => ?_
            refine rw_done ?_
            refine gn_sq ?_
            refine HW_seq rfl ?_
            refine HW_draw (.pure 0 (.pure 2 (.pure 3 (.pure 4 (.pure 5 (.pure 6 (.pure 7 (.pure 8 (.pure 9 (.act 1 (.cut (.pure 10 (.act 11 .done))))))))))))) No mix (by kernel_rfl) hm fun w hw hm0 hh => ?_
            have hm := hm0
            refine rw_p rfl rfl (y_move rfl) ?_
            refine rw_p rfl rfl (y_fieldAddr rfl fo29_5) ?_
            refine rw_p rfl rfl (y_load rfl sc27 (hm0.nd 7 rfl id) rfl) ?_
            refine rw_p rfl rfl (y_fieldAddr rfl fo31_0) ?_
            refine rw_p rfl rfl (y_load rfl sc3 (hm0.nd 0 rfl id) rfl) ?_
            refine rw_p rfl rfl (y_fieldAddr rfl fo31_1) ?_
            refine rw_p rfl rfl (y_load rfl sc3 (hm0.nd 0 rfl id) rfl) ?_
            refine rw_p rfl rfl (y_fieldAddr rfl fo31_2) ?_
            refine rw_p rfl rfl (y_load rfl sc26 (hm0.nd 0 rfl id) rfl) ?_
            refine a_call rfl rfl rfl go17 (j_next m F b _ S j k p_x c_x (hm.get (k := 8) rfl)) fun v w hR => ?_
            obtain ⟨rfl, hE⟩ := hR
            refine ⟨hh.ext hE, ?_⟩
            replace hm := hm.ext hE
            replace hh := hh.ext hE
            refine a_cut ?_
            refine rw_p rfl rfl (y_build (cs := [_, _, _, _, _]) z43 ft43 rfl rfl rfl rfl rfl) ?_
            refine a_store rfl rfl rfl rfl sz43 rfl hm 2 rfl rfl fun w hm => ?_
            refine rw_done ?_
            refine gn_sq ?_
            refine HW_seq rfl ?_
            refine HW_text (.pure 0 (.pure 1 (.act 2 (.act 3 (.pure 4 .done))))) (by kernel_rfl) ?_
            refine rw_p rfl rfl (y_move rfl) ?_
            refine rw_p rfl rfl (y_loadA (s := 5) (vs := [_, _, _, _, _]) rfl ag43 (hm.nt 2 rfl) rfl) ?_
            refine a_buildSlice (l := [_, _, _, _, _]) rfl rfl sl65 z43 rfl rfl rfl rfl rfl rfl rfl hm trivial fun m6 w hg_m6 hm hh => ?_
            refine a_append rfl rfl rfl rfl rfl rfl sl65 sl65 z43 rfl rfl (Rd.row0 (hm.get (k := 0) rfl)) rfl ha_s hm 2 rfl (by omega) (by omega) fun p_s cap_s g_s b_s w ha_s hm => ?_
            refine rw_p rfl rfl (y_assign rfl) ?_
            refine rw_done ?_
            refine gn_sq ?_
            refine HW_seq rfl ?_
            refine HW_seq rfl ?_
            refine HW_text (.pure 0 (.pure 1 (.pure 2 (.pure 3 (.pure 4 (.pure 5 (.pure 6 (.act 7 (.act 8 (.pure 9 .done)))))))))) (by kernel_rfl) ?_
            refine rw_p rfl rfl (y_move rfl) ?_
            refine rw_p rfl rfl (y_fieldAddr rfl fo31_0) ?_
            refine rw_p rfl rfl (y_load rfl sc3 (hm.nt 1 rfl) rfl) ?_
            refine rw_p rfl rfl (y_fieldAddr rfl fo31_1) ?_
            refine rw_p rfl rfl (y_load rfl sc3 (hm.nt 1 rfl) rfl) ?_
            refine rw_p rfl rfl (y_fieldAddr rfl fo31_2) ?_
            refine rw_p rfl rfl (y_load rfl sc26 (hm.nt 1 rfl) rfl) ?_
            refine a_buildSlice (l := [_]) rfl rfl sl88 z26 rfl rfl rfl rfl rfl rfl rfl hm trivial fun m7 w hg_m7 hm hh => ?_
            refine a_call rfl rfl rfl go14 (j_append D m Z S j _ F N b k e.cu e.of _ 1 [e.d] e.d.bs _ (OwnZ.right (A := [_, _, _, _, _, _, _, _, _, _]) hm.ownZ) hz ⟨p_x, c_x, g_x, b_x, rfl, ha_x⟩ hb hND h0 h2D (by omega) hk he.1 he.2.1 (Rd.row0 (hm.get (k := 0) rfl)) (fun s hs => by rw [List.mem_singleton.1 hs]; exact he.2.2.rd.ext0 hm.to) (by simp) (by simp) (by omega) (by rw [hI.ca, hI.hcnt]; show 0 + c ≤ 1000000000; omega)) fun v w hR => ?_
            obtain ⟨rfl, Zj, Z2, hj, hz2, hmc⟩ := hR
            refine ⟨trivial, ?_⟩
            obtain ⟨p_x, c_x, g_x, b_x, rfl, ha_x⟩ := hj
            replace hm := Mem.callZL (A := [_, _, _, _, _, _, _, _, _, _]) (Z := [_, _] ++ _) hm hmc
            have hca8 : ∀ h : (Pl.japp D F N b S (Pl.jmk S k e.cu e.of e.d.bs)).1 = 18, (Pl.japp D F N b S (Pl.jmk S k e.cu e.of e.d.bs)).2.1.ca.length ≤ 1000000000 := fun h => by
              by_cases ha9 : Pl.acc b (Pl.jmk S k e.cu e.of e.d.bs)
              · rcases Pl.japp_gen hI.ok hI.dn hI.ca h2D (show b + 44 ≤ (N : Int) * (D.sz : Int) by rw [hI.hsz]; exact hfit.2.2.2.1) ha9 with h7 | h7
                · rw [h7.1] at h; cases h
                · rw [h7.2.2.ca]; decide
              · rw [Pl.japp_no ha9] at h; cases h
            obtain ⟨R9, hR9⟩ : ∃ x, Pl.japp D F N b S (Pl.jmk S k e.cu e.of e.d.bs) = x := ⟨_, rfl⟩
            rw [hR9] at hm ha_x hz2 hst hca8 ⊢
            obtain ⟨e9, D2, S2⟩ := R9
            simp only at hm ha_x hz2 hst hca8 ⊢
            refine rw_p rfl rfl (y_eq rfl rfl) ?_
            refine rw_done ?_
            refine gn_sq ?_
            refine HW_cond rfl rfl (fun hc4 => ?_) (fun hc4 => ?_)
            ·
              simp only [decide_eq_true_eq] at hc4
              obtain ⟨-, hSe, hF9⟩ := hst.resolve_left (fun h => h.1 hc4)
              have hca9 := hca8 hc4
              refine HW_exit rfl ?_
              refine gx_sq (gx_up (by decide) (gx_sq (gx_lp ?_)))
              refine gx_here ?_
              refine gn_vi (⟨i, p_s, cap_s, g_s, b_s, kn ++ [(⟨S.nx, k, e.cu, e.of, e.d⟩ : RcV)], D2, S, Z2, p_x, c_x, g_x, b_x, p_z, cap_z, g_z, b_z, (Pl.jmk S k e.cu e.of e.d.bs), e.d.p, e.d.cap⟩ : CrS) ⟨(hm.pickT [3, 4, 5, 6, 7, 8, 9] 12 rfl), by rw [List.length_append]; exact ha_s.to (by rw [List.flatMap_append]; rfl), ha_z, hz2, by rw [List.map_append]; exact hF9, fun y hy => ?_, he.2.2.rd, hca9, by rw [List.length_append]; simp only [List.length_cons, List.length_nil]; omega⟩ ⟨by rw [List.length_append]; rfl, rfl, rfl, rfl, rfl, rfl, rfl, rfl, rfl, rfl, trivial⟩
              rcases List.mem_append.1 hy with h9 | h9
              · exact hrd y h9
              · rw [List.mem_singleton.1 h9]; exact he.2.2.rd
            ·
              simp only [decide_eq_false_iff_not] at hc4
              obtain ⟨-, hI2⟩ := hst.resolve_right (fun h => hc4 h.1)
              have hla2 := (JI_la hI2).1
              refine HW_skip rfl ?_
              refine gn_sq ?_
              refine HW_text (.pure 0 (.act 1 (.pure 2 (.pure 3 (.pure 4 (.act 5 (.pure 6 .done))))))) (by kernel_rfl) ?_
              refine rw_p rfl rfl (y_move rfl) ?_
              refine a_call rfl rfl rfl go15 (j_last m F b k S2 j _ _ ((hm.pick [10, 11] rfl)).ownZ ⟨p_x, c_x, g_x, b_x, rfl, ha_x⟩ (by omega)) fun v w hR => ?_
              obtain ⟨p_y, cap_y, g_y, b_y, rfl, ha_y, hmc⟩ := hR
              refine ⟨trivial, ?_⟩
              have hg_y : b_y.real = true → _ := fun hr => (hmc.fresh _ List.mem_cons_self hr).resolve_left id
              replace hm := hm.callN hmc
              refine rw_p rfl rfl (y_move rfl) ?_
              refine rw_p rfl rfl (y_extract rfl rfl) ?_
              refine rw_p rfl rfl (y_extract rfl rfl) ?_
              refine a_store rfl rfl rfl rfl sz43 rfl hm 6 rfl rfl fun w hm => ?_
              refine rw_p rfl rfl (y_assign rfl) ?_
              refine rw_done ?_
              refine gn_bl ?_
              refine gn_sq ?_
              refine HW_text (.pure 0 (.pure 1 .done)) (by kernel_rfl) ?_
              refine rw_p rfl rfl (y_add rfl rfl (i64w (by omega) (by omega))) ?_
              refine rw_p rfl rfl (y_move rfl) ?_
              refine rw_done ?_
              refine next ⟨i + 1, p_s, cap_s, g_s, b_s, kn ++ [(⟨S.nx, k, e.cu, e.of, e.d⟩ : RcV)], D2, S2, Z2, p_x, c_x, g_x, b_x, p_y, cap_y, g_y, b_y, (Pl.jmk S k e.cu e.of e.d.bs), e.d.p, e.d.cap⟩ (by simp only; omega) ⟨(hm.pickT [4, 5, 6, 0, 8, 9, 10, 11, 12] 13 rfl), by rw [List.length_append]; exact ha_s.to (by rw [List.flatMap_append]; rfl), ha_x, ha_y, hz2, by rw [List.map_append]; exact hI2, fun y hy => ?_, he.2.2.rd, by simp only; omega, by rw [List.length_append]; simp only [List.length_cons, List.length_nil]; omega⟩ ⟨nx i, by rw [List.length_append]; rfl, rfl, rfl, rfl, rfl, rfl, rfl, rfl, rfl, rfl, rfl, rfl, trivial⟩
              rcases List.mem_append.1 hy with h9 | h9
              · exact hrd y h9
              · rw [List.mem_singleton.1 h9]; exact he.2.2.rd
          ·
            simp only [decide_eq_false_iff_not] at hc3
            refine HW_exit rfl ?_
            refine gx_sq (gx_lp ?_)
            refine gx_here ?_
            exact gn_vi (⟨i, p_s, cap_s, g_s, b_s, kn, D, S, Z, p_x, c_x, g_x, b_x, p_z, cap_z, g_z, b_z, nr, np, nc⟩ : CrS) ⟨(hm.pickT [0, 1, 2, 3, 4, 5, 6] 9 rfl), ha_s, ha_z, hz, hI.fin h2 (by omega) nr, hrd, hnp, by rw [hI.ca]; decide, (show kn.length ≤ 1000 by omega)⟩ ⟨rfl, rfl, rfl, rfl, rfl, rfl, rfl, rfl, rfl, rfl, trivial⟩
        ·
          obtain ⟨i, p_s, cap_s, g_s, b_s, kn, D, S, Z, p_x, c_x, g_x, b_x, p_z, cap_z, g_z, b_z, nr, np, nc⟩ := y
          obtain ⟨hm, ha_s, ha_z, hz, hF, hrd, hnp, hca, hkl⟩ := hM
          simp only at hm ha_s ha_z hz hF hrd hnp hca hkl ⊢
          have hND : Pl.slot ((Pl.sDv D).sz : Int) b = (N : Int) := by show Pl.slot (D.sz : Int) b = _; rw [hF.hsz]; exact hN
          have h2D : F + 2 * N ≤ (Pl.sDv D).cnt := by show _ ≤ D.cnt; rw [hF.hcnt]; exact h2
          have hDl : D.dk.length = a * c := by rw [hF.ok.len, hF.hsz, hF.hcnt, Nat.mul_comm]
          have hEl : E.dk.length = a * c := by rw [hJ.ok.len, hJ.sz, hJ.cnt, Nat.mul_comm]; rfl
          have hFN : (F + 2 * N) * a ≤ c * a := Nat.mul_le_mul_right _ h2
          have hFN2 : (F + 2 * N) * a = F * a + 2 * (N * a) := by rw [Nat.add_mul, Nat.mul_assoc]
          have hac3 : a * c = c * a := Nat.mul_comm a c
          have hjt : ∀ q, q < 2 → Pl.jat D F N q = F * a + q * (N * a) := fun q hq => by rw [Pl.jat_two hq, hF.hsz]
          have hlo : D.dk.take (F * a) = E.dk.take (F * a) := List.ext_getElem? fun j => by rw [List.getElem?_take, List.getElem?_take]; split; exact hF.out j (.inl (by assumption)); rfl
          have hhi : D.dk.drop ((F + 2 * N) * a) = E.dk.drop ((F + 2 * N) * a) := List.ext_getElem? fun j => by rw [List.getElem?_drop, List.getElem?_drop]; exact hF.out _ (.inr (Nat.le_add_right _ _))
          refine HW_seq rfl ?_
          refine HW_text (.pure 0 (.act 1 .done)) (by kernel_rfl) ?_
          refine rw_p rfl rfl (y_move rfl) ?_
          refine a_call rfl rfl rfl go25 (o_restart D m Z _ (OwnZ.right (A := [_, _, _, _, _, _, _]) hm.ownZ) hz hca) fun v w hR => ?_
          obtain ⟨rfl, Z, hz, hmc⟩ := hR
          refine ⟨trivial, ?_⟩
          replace hm := Mem.callZL (A := [_, _, _, _, _, _, _]) hm hmc
          refine rw_done ?_
          refine gn_sq ?_
          refine HW_seq rfl ?_
          refine HW_text (.pure 0 (.pure 1 (.pure 2 (.pure 3 (.pure 4 (.pure 5 (.pure 6 (.act 7 (.pure 8 (.pure 9 (.pure 10 (.pure 11 (.pure 12 .done))))))))))))) (by kernel_rfl) ?_
          refine rw_p rfl rfl (y_move rfl) ?_
          refine rw_p rfl rfl (y_fieldAddr rfl fo29_3) ?_
          refine rw_p rfl rfl (y_load rfl sc3 (hm.nt 6 rfl) rfl) ?_
          refine rw_p rfl rfl (y_fieldAddr rfl fo29_4) ?_
          refine rw_p rfl rfl (y_load rfl sc3 (hm.nt 6 rfl) rfl) ?_
          refine rw_p rfl rfl (y_fieldAddr rfl fo29_5) ?_
          refine rw_p rfl rfl (y_load rfl sc27 (hm.nt 6 rfl) rfl) ?_
          refine a_call rfl rfl rfl go13 (j_open (Pl.sDv D) m Z _ (OwnZ.right (A := [_, _, _, _, _, _, _]) hm.ownZ) hz F N b hb hND h0 h2D k rfl) fun v w hR => ?_
          obtain ⟨j2, Zj, rfl, hj, hmc⟩ := hR
          refine ⟨trivial, ?_⟩
          obtain ⟨p_y, c_y, g_y, b_y, rfl, ha_y⟩ := hj
          replace hm := hm.callN hmc
          have hTl := jopen_len (Pl.ok_restart hF.ok) F N k
          have hcn := hF.concl
          obtain ⟨T, hT⟩ : ∃ T, Pl.jopen (Pl.sDv D) F N k = T := ⟨_, rfl⟩
          rw [hT] at hm ha_y hTl hcn
          refine rw_p rfl rfl (y_move rfl) ?_
          refine rw_p rfl rfl (y_extract rfl rfl) ?_
          refine rw_p rfl rfl (y_extract rfl rfl) ?_
          refine rw_p rfl rfl (y_assign rfl) ?_
          refine rw_p rfl rfl (y_assign rfl) ?_
          refine rw_done ?_
          refine gn_sq ?_
          refine HW_seq rfl ?_
          refine HW_seq rfl ?_
          refine HW_text (.pure 0 (.pure 1 (.pure 2 (.pure 3 (.pure 4 (.pure 5 .done)))))) (by kernel_rfl) ?_
          refine rw_p rfl rfl (y_move rfl) ?_
          refine rw_p rfl rfl (y_pnil rfl rfl pb37) ?_
          refine rw_p rfl rfl (y_move rfl) ?_
          refine rw_p rfl rfl (y_move rfl) ?_
          refine rw_p rfl rfl (y_as (c := false) (y_ne rfl rfl) (by decide)) ?_
          refine rw_p rfl rfl (y_pickF rfl rfl) ?_
          refine rw_done ?_
          refine gn_sq ?_
          refine HW_condF rfl rfl rfl ?_
          refine HW_skip rfl ?_
          refine gn_sq ?_
          refine HW_seq rfl ?_
          refine HW_text (.pure 0 (.act 1 (.pure 2 (.pure 3 (.pure 4 (.act 5 (.act 6 (.pure 7 .done)))))))) (by kernel_rfl) ?_
          refine rw_p rfl rfl (y_move rfl) ?_
          refine a_call rfl rfl rfl go15 (j_last m F b k T j2 _ _ ((hm.pick [0, 1] rfl)).ownZ ⟨p_y, c_y, g_y, b_y, rfl, ha_y⟩ (by omega)) fun v w hR => ?_
          obtain ⟨p_u, cap_u, g_u, b_u, rfl, ha_u, hmc⟩ := hR
          refine ⟨trivial, ?_⟩
          have hg_u : b_u.real = true → _ := fun hr => (hmc.fresh _ List.mem_cons_self hr).resolve_left id
          replace hm := hm.callN hmc
          refine rw_p rfl rfl (y_move rfl) ?_
          refine rw_p rfl rfl (y_extract rfl rfl) ?_
          refine rw_p rfl rfl (y_extract rfl rfl) ?_
          refine a_alloc rfl rfl z43 hm trivial fun m25 w hg_m25 hm hh => ?_
          refine a_store rfl rfl rfl rfl sz43 rfl hm 0 rfl rfl fun w hm => ?_
          refine rw_p rfl rfl (y_assign rfl) ?_
          refine rw_done ?_
          refine gn_sq ?_
          refine HW_seq rfl ?_
          refine HW_text (.pure 0 (.act 1 (.pure 2 .done))) (by kernel_rfl) ?_
          refine rw_p rfl rfl (y_move rfl) ?_
          refine a_call rfl rfl rfl go22 (o_disk (Pl.sDv D) m Z _ (OwnZ.right (A := [_, _, _, _, _, _, _, _, _, _, _]) hm.ownZ) hz) fun v w hR => ?_
          obtain ⟨p_t, cap_t, g_t, b_t, rfl, ha_t, hmc⟩ := hR
          refine ⟨trivial, ?_⟩
          have hg_t : b_t.real = true → _ := fun hr => (hmc.fresh _ List.mem_cons_self hr).resolve_left id
          replace hm := hm.callN hmc
          rw [(Pl.sDv_eq (D := D)).1] at ha_t ⊢
          have htle := ha_t.le
          have hvle := ha_v.le
          refine rw_p rfl rfl (y_assign rfl) ?_
          refine rw_done ?_
          refine gn_sq ?_
          refine HW_seq rfl ?_
          refine HW_draw (.pure 0 (.pure 1 (.pure 2 (.pure 3 (.pure 4 (.pure 5 (.pure 6 (.pure 7 (.pure 8 (.pure 9 (.pure 10 (.pure 14 (.pure 15 (.act 11 (.pure 12 (.pure 13 (.pure 16 (.pure 17 (.pure 18 .done))))))))))))))))))) No mix (by kernel_rfl) hm fun w hw hm0 hh => ?_
          have hm := hm0
          refine rw_p rfl rfl (y_fieldAddr rfl fo29_3) ?_
          refine rw_p rfl rfl (y_load rfl sc3 (hm0.nd 11 rfl id) rfl) ?_
          refine rw_p rfl rfl (y_fieldAddr rfl fo29_0) ?_
          refine rw_p rfl rfl (y_load rfl sc3 (hm0.nd 11 rfl id) rfl) ?_
          refine rw_p rfl rfl (y_mul rfl rfl (mulN (by omega))) ?_
          refine rw_p rfl rfl (y_fieldAddr rfl fo29_3) ?_
          refine rw_p rfl rfl (y_load rfl sc3 (hm0.nd 11 rfl id) rfl) ?_
          refine rw_p rfl rfl (y_fieldAddr rfl fo29_0) ?_
          refine rw_p rfl rfl (y_load rfl sc3 (hm0.nd 11 rfl id) rfl) ?_
          refine rw_p rfl rfl (y_fieldAddr rfl fo29_4) ?_
          refine rw_p rfl rfl (y_load rfl sc3 (hm0.nd 11 rfl id) rfl) ?_
          refine rw_p rfl rfl (y_fieldAddr rfl fo29_0) ?_
          refine rw_p rfl rfl (y_load rfl sc3 (hm0.nd 11 rfl id) rfl) ?_
          refine a_call rfl rfl rfl go8 (C.as (v := .int .i64 (N : Int)) (r22_slot (a : Int) b _ (by simp only [Pl.I64]; omega) hb) (by rw [hN])) fun v w hR => ?_
          obtain ⟨rfl, hE⟩ := hR
          refine ⟨hh.ext hE, ?_⟩
          replace hm := hm.ext hE
          replace hh := hh.ext hE
          refine rw_p rfl rfl (y_mul rfl rfl ((i64w (by omega) (by omega)).trans (show _ = ((2 * N : Nat) : Int) by omega))) ?_
          refine rw_p rfl rfl (y_add rfl rfl (addK _ (by omega))) ?_
          refine rw_p rfl rfl (y_mul rfl rfl (mulN (by omega))) ?_
          refine rw_p rfl rfl (y_assign rfl) ?_
          refine rw_p rfl rfl (y_assign rfl) ?_
          refine rw_done ?_
          refine gn_sq ?_
          refine HW_seq rfl ?_
          refine HW_seq rfl ?_
          refine HW_draw (.pure 0 (.pure 1 (.pure 2 (.pure 3 (.pure 4 (.pure 5 (.pure 6 (.pure 7 (.pure 8 (.pure 9 (.pure 10 (.pure 11 (.pure 12 (.pure 13 (.pure 14 (.pure 15 (.pure 16 (.pure 17 (.pure 18 (.pure 19 (.pure 20 (.pure 21 (.act 22 (.pure 23 (.pure 24 (.pure 25 (.pure 26 (.pure 27 (.pure 28 (.pure 29 (.pure 30 (.pure 31 (.cut (.act 32 (.pure 33 (.pure 34 .done)))))))))))))))))))))))))))))))))))) No mix (by kernel_rfl) hm fun w hw hm0 hh => ?_
          have hm := hm0
          refine rw_p rfl rfl (y_move rfl) ?_
          refine rw_p rfl rfl (y_len rfl rfl sl26) ?_
          refine rw_p rfl rfl (y_fieldAddr rfl fo29_0) ?_
          refine rw_p rfl rfl (y_load rfl sc3 (hm0.nd 11 rfl id) rfl) ?_
          refine rw_p rfl rfl (y_fieldAddr rfl fo29_1) ?_
          refine rw_p rfl rfl (y_load rfl sc3 (hm0.nd 11 rfl id) rfl) ?_
          refine rw_p rfl rfl (y_mul rfl rfl (mulN (by omega))) ?_
          refine rw_p rfl rfl (y_as (c := false) (y_ne rfl rfl) (decide_eq_false (by rw [hEl]; exact fun h => h rfl))) ?_
          refine rw_p rfl rfl (y_move rfl) ?_
          refine rw_p rfl rfl (y_move rfl) ?_
          refine rw_p rfl rfl (y_len rfl rfl sl26) ?_
          refine rw_p rfl rfl (y_move rfl) ?_
          refine rw_p rfl rfl (y_len rfl rfl sl26) ?_
          refine rw_p rfl rfl (y_as (c := false) (y_ne rfl rfl) (decide_eq_false (by rw [hEl, hDl]; exact fun h => h rfl))) ?_
          refine rw_p rfl rfl (y_pickF rfl rfl) ?_
          refine rw_p rfl rfl (y_move rfl) ?_
          refine rw_p rfl rfl (y_move rfl) ?_
          refine rw_p rfl rfl (y_move rfl) ?_
          refine rw_p rfl rfl (y_v (y_slice (ln := 0) (hn := (F * a)) rfl sl26 rfl ⟨_, rfl⟩ (Nat.zero_le _) (by have := ha_t.le; omega) (fun h => ha_t.spot (by have := ha_t.le; omega))) (show _ = Value.slice (slp p_t cap_t 0 1) (D.dk.take (F * a)).length cap_t by rw [List.length_take, Nat.min_eq_left (by omega)]; rfl)) ?_
          refine rw_p rfl rfl (y_move rfl) ?_
          refine rw_p rfl rfl (y_move rfl) ?_
          refine rw_p rfl rfl (y_v (y_slice (ln := 0) (hn := (F * a)) rfl sl26 rfl ⟨_, rfl⟩ (Nat.zero_le _) (by have := ha_v.le; omega) (fun h => ha_v.spot (by have := ha_v.le; omega))) (show _ = Value.slice (slp p_v cap_v 0 1) (E.dk.take (F * a)).length cap_v by rw [List.length_take, Nat.min_eq_left (by omega)]; rfl)) ?_
          refine a_call rfl rfl rfl go21 (C.as (v := .bool true) (eq_b (slp p_t cap_t 0 1) (slp p_v cap_v 0 1) cap_t cap_v (D.dk.take (F * a)) (E.dk.take (F * a)) _ ((ha_t.rd hm 0 rfl).takeV ha_t.le) ((ha_v.rd hm 9 rfl).takeV ha_v.le) (by rw [List.length_take]; omega) (by rw [List.length_take]; omega)) (congrArg Value.bool (decide_eq_true hlo))) fun v w hR => ?_
          obtain ⟨rfl, hE⟩ := hR
          refine ⟨hh.ext hE, ?_⟩
          replace hm := hm.ext hE
          replace hh := hh.ext hE
          refine rw_p rfl rfl (y_not rfl) ?_
          refine rw_p rfl rfl (y_pickF rfl rfl) ?_
          refine rw_p rfl rfl (y_move rfl) ?_
          refine rw_p rfl rfl (y_move rfl) ?_
          refine rw_p rfl rfl (y_move rfl) ?_
          refine rw_p rfl rfl (y_v (y_slice (ln := ((F + 2 * N) * a)) (hn := D.dk.length) rfl sl26 ⟨_, rfl⟩ rfl (by omega) ha_t.le (fun h => ha_t.spot (by omega))) (show _ = Value.slice (slp p_t cap_t ((F + 2 * N) * a) 1) (D.dk.drop ((F + 2 * N) * a)).length (cap_t - (F + 2 * N) * a) by rw [List.length_drop])) ?_
          refine rw_p rfl rfl (y_move rfl) ?_
          refine rw_p rfl rfl (y_move rfl) ?_
          refine rw_p rfl rfl (y_v (y_slice (ln := ((F + 2 * N) * a)) (hn := E.dk.length) rfl sl26 ⟨_, rfl⟩ rfl (by omega) ha_v.le (fun h => ha_v.spot (by omega))) (show _ = Value.slice (slp p_v cap_v ((F + 2 * N) * a) 1) (E.dk.drop ((F + 2 * N) * a)).length (cap_v - (F + 2 * N) * a) by rw [List.length_drop])) ?_
          refine a_cut ?_
          refine a_call rfl rfl rfl go21 (C.as (v := .bool true) (eq_b (slp p_t cap_t ((F + 2 * N) * a) 1) (slp p_v cap_v ((F + 2 * N) * a) 1) (cap_t - (F + 2 * N) * a) (cap_v - (F + 2 * N) * a) (D.dk.drop ((F + 2 * N) * a)) (E.dk.drop ((F + 2 * N) * a)) _ ((ha_t.rd hm 0 rfl).dropV ha_t.le) ((ha_v.rd hm 9 rfl).dropV ha_v.le) (by rw [List.length_drop]; omega) (by rw [List.length_drop]; omega)) (congrArg Value.bool (decide_eq_true hhi))) fun v w hR => ?_
          obtain ⟨rfl, hE⟩ := hR
          refine ⟨trivial, ?_⟩
          replace hm := hm.ext hE
          refine rw_p rfl rfl (y_not rfl) ?_
          refine rw_p rfl rfl (y_pickF rfl rfl) ?_
          refine rw_done ?_
          refine gn_sq ?_
          refine HW_condF rfl rfl rfl ?_
          refine HW_skip rfl ?_
          refine gn_sq ?_
          refine HW_seq rfl ?_
          refine HW_seq rfl ?_
          refine HW_text (.pure 0 .done) (by kernel_rfl) ?_
          refine rw_p rfl rfl (y_move rfl) ?_
          refine rw_done ?_
          refine gn_sq ?_
          refine HW_block rfl ?_
          refine HW_loopK (ι := Nat) rfl (ks := [12, 13, 14, 15, 20, 21, 22, 23, 24]) (.cons rfl (.cons rfl (.cons rfl (.cons rfl (.cons rfl (.cons rfl (.cons rfl (.cons rfl (.cons rfl .nil))))))))) (fun q9 => [(202, .int .i64 q9)]) (fun q9 w => Mem w0 w No [(g_t, b_t), (m25, .row 43 (rcV (Pl.jla T) p_u (Pl.jla T).bs.length cap_u)), (g_u, b_u), (g_s, b_s), (m4, .row 43 (rcV nr np nr.bs.length nc)), (m3, .row 43 (rcV (Pl.jla S) p_z (Pl.jla S).bs.length cap_z)), (g_z, b_z)] ∧ q9 ≤ 2 ∧ ∀ q, q < q9 → ∀ x, Pl.rdec ((D.dk.drop (Pl.jat D F N q)).take ((F + 2 * N) * a - Pl.jat D F N q)) = some x → x ∈ kn.map RcV.rc) (fun q9 => 2 - q9) 0 (⟨(hm.pick [0, 1, 2, 5, 6, 7, 8] rfl), Nat.zero_le _, fun q h9 => absurd h9 (Nat.not_lt_zero _)⟩) ⟨rfl, trivial⟩ (fun q9 w hM => ?_)
          obtain ⟨hm, hk9, hdone⟩ := hM
          refine HW_seq rfl ?_
          refine HW_text (.pure 0 .done) (by kernel_rfl) ?_
          refine rw_p rfl rfl (y_lt rfl rfl) ?_
          refine rw_done ?_
          refine gn_sq ?_
          refine HW_seq rfl ?_
          refine HW_cond rfl rfl (fun hc7 => ?_) (fun hc7 => ?_)
          ·
            simp only [decide_eq_true_eq] at hc7
            have hq2 : q9 < 2 := by omega
            have hjt9 := hjt q9 hq2
            have hqN : q9 * (N * a) ≤ N * a := by have := Nat.mul_le_mul_right (N * a) (show q9 ≤ 1 by omega); rwa [Nat.one_mul] at this
            have hjle : Pl.jat D F N q9 ≤ (F + 2 * N) * a := by omega
            have hBl : ((D.dk.drop (Pl.jat D F N q9)).take ((F + 2 * N) * a - Pl.jat D F N q9)).length = (F + 2 * N) * a - Pl.jat D F N q9 := by rw [List.length_take, List.length_drop]; omega
            have hqd : q9 * ((F + 2 * N) * a - F * a) / 2 = q9 * (N * a) := by rw [show (F + 2 * N) * a - F * a = 2 * (N * a) by omega, Nat.mul_left_comm, Nat.mul_div_cancel_left _ (by decide)]
            refine HW_skip rfl ?_
            refine gn_sq ?_
            refine HW_seq rfl ?_
            refine HW_block rfl ?_
            refine HW_seq rfl ?_
            refine HW_text (.pure 0 (.pure 1 .done)) (by kernel_rfl) ?_
            refine rw_p rfl rfl (y_move rfl) ?_
            refine rw_p rfl rfl (y_assign rfl) ?_
            refine rw_done ?_
            refine gn_sq ?_
            refine HW_seq rfl ?_
            cases hr : Pl.rdec ((D.dk.drop (Pl.jat D F N q9)).take ((F + 2 * N) * a - Pl.jat D F N q9))
            ·
              have hcur : ∀ x, Pl.rdec ((D.dk.drop (Pl.jat D F N q9)).take ((F + 2 * N) * a - Pl.jat D F N q9)) = some x → x ∈ kn.map RcV.rc := fun x hx => by rw [hr] at hx; cases hx
              refine HW_text (.pure 0 (.pure 1 (.pure 2 (.pure 3 (.pure 4 (.pure 5 (.pure 6 (.pure 7 (.pure 8 (.pure 9 (.pure 10 (.act 11 (.pure 12 (.pure 13 (.pure 14 (.act 15 (.act 16 (.pure 17 .done)))))))))))))))))) (by kernel_rfl) ?_
              refine rw_p rfl rfl (y_move rfl) ?_
              refine rw_p rfl rfl (y_move rfl) ?_
              refine rw_p rfl rfl (y_move rfl) ?_
              refine rw_p rfl rfl (y_move rfl) ?_
              refine rw_p rfl rfl (y_move rfl) ?_
              refine rw_p rfl rfl (y_sub rfl rfl (subK _ (by omega) (by omega))) ?_
              refine rw_p rfl rfl (y_mul rfl rfl (mulN (by have := Nat.mul_le_mul_right ((F + 2 * N) * a - F * a) (show q9 ≤ 1 by omega); omega))) ?_
              refine rw_p rfl rfl (y_quo rfl rfl (by omega) (quoK (q9 * ((F + 2 * N) * a - F * a)) 2 (by have := Nat.mul_le_mul_right ((F + 2 * N) * a - F * a) (show q9 ≤ 1 by omega); omega) (by decide))) ?_
              refine rw_p rfl rfl (y_v (y_add rfl rfl (addK _ (by omega))) (show _ = Value.int .i64 ((Pl.jat D F N q9 : Nat) : Int) by rw [hqd, hjt9])) ?_
              refine rw_p rfl rfl (y_move rfl) ?_
              refine rw_p rfl rfl (y_v (y_slice (ln := (Pl.jat D F N q9)) (hn := ((F + 2 * N) * a)) rfl sl26 ⟨_, rfl⟩ ⟨_, rfl⟩ hjle (by omega) (fun h => ha_t.spot (by omega))) (show _ = Value.slice (slp p_t cap_t (Pl.jat D F N q9) 1) ((D.dk.drop (Pl.jat D F N q9)).take ((F + 2 * N) * a - Pl.jat D F N q9)).length (cap_t - Pl.jat D F N q9) by rw [hBl])) ?_
              refine a_call rfl rfl rfl go26 (r21_decode (slp p_t cap_t (Pl.jat D F N q9) 1) (cap_t - Pl.jat D F N q9) ((D.dk.drop (Pl.jat D F N q9)).take ((F + 2 * N) * a - Pl.jat D F N q9)) _ ((ha_t.rd hm 0 rfl).sub ha_t.le) (by rw [hBl]; omega) (fun h ad e => slp_spot (fun h9 => ha_t.spot (by omega)) (show cap_t ≠ Pl.jat D F N q9 by omega) e) (by rw [hBl]; omega)) fun v w hR => ?_
              obtain ⟨p_d, cap_d, g_d, b_d, rfl, ha_d, hmc⟩ := hR
              refine ⟨trivial, ?_⟩
              have hg_d : b_d.real = true → _ := fun hr => (hmc.fresh _ List.mem_cons_self hr).resolve_left id
              replace hm := hm.callN hmc
              rw [hr] at ha_d ⊢
              simp only [Option.getD_none, Option.isSome_none] at ha_d ⊢
              refine rw_p rfl rfl (y_move rfl) ?_
              refine rw_p rfl rfl (y_extract rfl rfl) ?_
              refine rw_p rfl rfl (y_extract rfl rfl) ?_
              refine a_alloc rfl rfl z66 hm trivial fun m26 w hg_m26 hm hh => ?_
              refine a_store rfl rfl rfl rfl sz66 rfl hm 0 rfl rfl fun w hm => ?_
              refine rw_p rfl rfl (y_assign rfl) ?_
              refine rw_done ?_
              refine gn_sq ?_
              refine HW_seq rfl ?_
              refine HW_text (.pure 0 (.pure 1 (.pure 2 (.pure 3 (.act 4 (.pure 5 (.pure 6 .done))))))) (by kernel_rfl) ?_
              refine rw_p rfl rfl (y_move rfl) ?_
              refine rw_p rfl rfl (y_move rfl) ?_
              refine rw_gf rfl rfl (by decide) rfl ?_
              refine rw_gf rfl rfl (by decide) rfl ?_
              refine a_gf rfl rfl (by decide) rfl trivial ?_
              refine rw_gf rfl rfl (by decide) rfl ?_
              refine rw_p rfl rfl (y_pickF rfl rfl) ?_
              refine rw_done ?_
              refine gn_sq ?_
              refine HW_condF rfl rfl rfl ?_
              refine HW_skip rfl ?_
              refine gn_bl ?_
              refine gn_sq ?_
              refine HW_text (.pure 0 (.pure 1 .done)) (by kernel_rfl) ?_
              refine rw_p rfl rfl (y_add rfl rfl (i64w (by omega) (by omega))) ?_
              refine rw_p rfl rfl (y_move rfl) ?_
              refine rw_done ?_
              refine next (q9 + 1) (by omega) ⟨(hm.pick [2, 3, 4, 5, 6, 7, 8] rfl), by omega, fun q hq9 x hx => ?_⟩ ⟨nx q9, rfl, rfl, rfl, rfl, rfl, rfl, rfl, rfl, rfl, trivial⟩
              rcases (show q < q9 ∨ q = q9 by omega) with h9 | h9
              · exact hdone q h9 x hx
              · rw [h9] at hx; exact hcur x hx
            ·
              rename_i x9
              refine HW_text (.pure 0 (.pure 1 (.pure 2 (.pure 3 (.pure 4 (.pure 5 (.pure 6 (.pure 7 (.pure 8 (.pure 9 (.pure 10 (.act 11 (.pure 12 (.pure 13 (.pure 14 (.act 15 (.act 16 (.pure 17 .done)))))))))))))))))) (by kernel_rfl) ?_
              refine rw_p rfl rfl (y_move rfl) ?_
              refine rw_p rfl rfl (y_move rfl) ?_
              refine rw_p rfl rfl (y_move rfl) ?_
              refine rw_p rfl rfl (y_move rfl) ?_
              refine rw_p rfl rfl (y_move rfl) ?_
              refine rw_p rfl rfl (y_sub rfl rfl (subK _ (by omega) (by omega))) ?_
              refine rw_p rfl rfl (y_mul rfl rfl (mulN (by have := Nat.mul_le_mul_right ((F + 2 * N) * a - F * a) (show q9 ≤ 1 by omega); omega))) ?_
              refine rw_p rfl rfl (y_quo rfl rfl (by omega) (quoK (q9 * ((F + 2 * N) * a - F * a)) 2 (by have := Nat.mul_le_mul_right ((F + 2 * N) * a - F * a) (show q9 ≤ 1 by omega); omega) (by decide))) ?_
              refine rw_p rfl rfl (y_v (y_add rfl rfl (addK _ (by omega))) (show _ = Value.int .i64 ((Pl.jat D F N q9 : Nat) : Int) by rw [hqd, hjt9])) ?_
              refine rw_p rfl rfl (y_move rfl) ?_
              refine rw_p rfl rfl (y_v (y_slice (ln := (Pl.jat D F N q9)) (hn := ((F + 2 * N) * a)) rfl sl26 ⟨_, rfl⟩ ⟨_, rfl⟩ hjle (by omega) (fun h => ha_t.spot (by omega))) (show _ = Value.slice (slp p_t cap_t (Pl.jat D F N q9) 1) ((D.dk.drop (Pl.jat D F N q9)).take ((F + 2 * N) * a - Pl.jat D F N q9)).length (cap_t - Pl.jat D F N q9) by rw [hBl])) ?_
              refine a_call rfl rfl rfl go26 (r21_decode (slp p_t cap_t (Pl.jat D F N q9) 1) (cap_t - Pl.jat D F N q9) ((D.dk.drop (Pl.jat D F N q9)).take ((F + 2 * N) * a - Pl.jat D F N q9)) _ ((ha_t.rd hm 0 rfl).sub ha_t.le) (by rw [hBl]; omega) (fun h ad e => slp_spot (fun h9 => ha_t.spot (by omega)) (show cap_t ≠ Pl.jat D F N q9 by omega) e) (by rw [hBl]; omega)) fun v w hR => ?_
              obtain ⟨p_d, cap_d, g_d, b_d, rfl, ha_d, hmc⟩ := hR
              refine ⟨trivial, ?_⟩
              have hg_d : b_d.real = true → _ := fun hr => (hmc.fresh _ List.mem_cons_self hr).resolve_left id
              replace hm := hm.callN hmc
              rw [hr] at ha_d ⊢
              simp only [Option.getD_some, Option.isSome_some] at ha_d ⊢
              refine rw_p rfl rfl (y_move rfl) ?_
              refine rw_p rfl rfl (y_extract rfl rfl) ?_
              refine rw_p rfl rfl (y_extract rfl rfl) ?_
              refine a_alloc rfl rfl z66 hm trivial fun m26 w hg_m26 hm hh => ?_
              refine a_store rfl rfl rfl rfl sz66 rfl hm 0 rfl rfl fun w hm => ?_
              refine rw_p rfl rfl (y_assign rfl) ?_
              refine rw_done ?_
              refine gn_sq ?_
              refine HW_seq rfl ?_
              refine HW_text (.pure 0 (.pure 1 (.pure 2 (.pure 3 (.act 4 (.pure 5 (.pure 6 .done))))))) (by kernel_rfl) ?_
              refine rw_p rfl rfl (y_move rfl) ?_
              refine rw_p rfl rfl (y_move rfl) ?_
              refine rw_p rfl rfl (y_move rfl) ?_
              refine rw_p rfl rfl (y_func rfl rfl) ?_
              refine a_call rfl rfl rfl go27 (conf_r p_s cap_s kn 28 [.pointer (some ⟨m26, 0, none⟩)] (fun y => Pl.rsame y.rc x9) _ (ha_s.rd hm 5 rfl) (by omega) go28 (fun y w1 hy9 hE => law_cr1 y x9 p_d cap_d m26 w1 ((hE.same m26 ((Array.getElem?_eq_some_iff.1 (hm.get (k := 0) rfl)).1) id).trans (hm.get (k := 0) rfl)) ((hrd y hy9).ext0 (hm.to.trans hE)) ((ha_d.rd hm 1 rfl).ext0 hE))) fun v w hR => ?_
              obtain ⟨rfl, hE⟩ := hR
              refine ⟨trivial, ?_⟩
              replace hm := hm.ext hE
              refine rw_p rfl rfl (y_not rfl) ?_
              refine rw_p rfl rfl (y_pickT rfl rfl) ?_
              refine rw_done ?_
              refine gn_sq ?_
              refine HW_cond rfl rfl (fun hc8 => ?_) (fun hc8 => ?_)
              ·
                refine HW_seq rfl ?_
                refine HW_text (.act 0 (.pure 1 .done)) (by kernel_rfl) ?_
                refine a_call rfl rfl rfl go9 (law_alive _) fun v w hR => ?_
                obtain ⟨rfl, hE⟩ := hR
                refine ⟨trivial, ?_⟩
                replace hm := hm.ext hE
                refine rw_p rfl rfl (y_assign rfl) ?_
                refine rw_done ?_
                refine gn_sq ?_
                refine HW_ret rfl ?_
                refine gr_bl (gr_sq (gr_lp (gr_bl (gr_sq ?_))))
                refine toR (fin hret rfl (.tmp rfl .nil) .one ?_)
                exact ⟨rfl, hm.to⟩
              ·
                simp only [Bool.not_eq_false'] at hc8
                have hcur : ∀ x, Pl.rdec ((D.dk.drop (Pl.jat D F N q9)).take ((F + 2 * N) * a - Pl.jat D F N q9)) = some x → x ∈ kn.map RcV.rc := fun x hx => by rw [hr] at hx; cases hx; exact any_same hc8
                refine HW_skip rfl ?_
                refine gn_bl ?_
                refine gn_sq ?_
                refine HW_text (.pure 0 (.pure 1 .done)) (by kernel_rfl) ?_
                refine rw_p rfl rfl (y_add rfl rfl (i64w (by omega) (by omega))) ?_
                refine rw_p rfl rfl (y_move rfl) ?_
                refine rw_done ?_
                refine next (q9 + 1) (by omega) ⟨(hm.pick [2, 3, 4, 5, 6, 7, 8] rfl), by omega, fun q hq9 x hx => ?_⟩ ⟨nx q9, rfl, rfl, rfl, rfl, rfl, rfl, rfl, rfl, rfl, trivial⟩
                rcases (show q < q9 ∨ q = q9 by omega) with h9 | h9
                · exact hdone q h9 x hx
                · rw [h9] at hx; exact hcur x hx
          ·
            simp only [decide_eq_false_iff_not] at hc7
            have hcc := hcn (fun q hq9 x hx => hdone q (by omega) x hx)
            refine HW_exit rfl ?_
            refine gx_sq (gx_lp ?_)
            refine gx_here ?_
            refine gn_sq ?_
            refine HW_seq rfl ?_
            rcases (show (T.has = S.has ∧ (T.has = true → T.la = S.la)) ∨ (T.has = true ∧ T.la = nr ∧ S.has = false) ∨ (T.has = true ∧ T.la = nr ∧ S.has = true ∧ Pl.rsame (Pl.jla T) (Pl.jla S) = true) ∨ (T.has = true ∧ T.la = nr ∧ S.has = true ∧ Pl.rsame (Pl.jla T) (Pl.jla S) = false) by
                rcases hcc with h | ⟨h1, h2⟩
                · exact .inl h
                · cases hSh : S.has with
                  | false => exact .inr (.inl ⟨h1, h2, rfl⟩)
                  | true => cases hss : Pl.rsame (Pl.jla T) (Pl.jla S) with
                    | true => exact .inr (.inr (.inl ⟨h1, h2, rfl, rfl⟩))
                    | false => exact .inr (.inr (.inr ⟨h1, h2, rfl, rfl⟩))) with ⟨h1, h2⟩ | ⟨h1, h2, hSh⟩ | ⟨h1, h2, hSh, hss⟩ | ⟨h1, h2, hSh, hss⟩
            ·
              refine HW_text (.act 0 (.pure 1 (.pure 2 (.pure 3 (.pure 4 (.pure 5 (.pure 6 (.pure 7 (.act 8 (.pure 9 (.pure 10 (.pure 11 (.pure 12 (.pure 13 (.pure 14 (.act 15 (.pure 16 (.pure 17 (.pure 18 (.pure 19 .done)))))))))))))))))))) (by kernel_rfl) ?_
              refine a_call rfl rfl rfl go9 (law_alive _) fun v w hR => ?_
              obtain ⟨rfl, hE⟩ := hR
              refine ⟨trivial, ?_⟩
              replace hm := hm.ext hE
              refine rw_p rfl rfl (y_move rfl) ?_
              refine rw_p rfl rfl (y_move rfl) ?_
              refine rw_p rfl rfl (y_move rfl) ?_
              refine rw_p rfl rfl (y_as (c := true) (y_beql rfl rfl un4) (by rw [h1]; exact beq_self_eq_true _)) ?_
              refine rw_p rfl rfl (y_move rfl) ?_
              refine rw_p rfl rfl (y_loadA (s := 5) (vs := [_, _, _, _, _]) rfl ag43 (hm.nt 1 rfl) rfl) ?_
              refine rw_p rfl rfl (y_loadA (s := 5) (vs := [_, _, _, _, _]) rfl ag43 (hm.nt 5 rfl) rfl) ?_
              refine a_call rfl rfl rfl go29 (C.as (v := .bool true) (rec_same (Pl.jla T) (Pl.jla S) p_u p_z cap_u cap_z _ (ha_u.rd hm 2 rfl) (ha_z.rd hm 6 rfl)) (congrArg Value.bool (by rw [jla_eq h1 h2]; exact Pl.rsame_refl _))) fun v w hR => ?_
              obtain ⟨rfl, hE⟩ := hR
              refine ⟨trivial, ?_⟩
              replace hm := hm.ext hE
              refine rw_p rfl rfl (y_pickT rfl rfl) ?_
              refine rw_p rfl rfl (y_move rfl) ?_
              refine rw_gf rfl rfl (by decide) rfl ?_
              refine rw_gf rfl rfl (by decide) rfl ?_
              refine rw_gu rfl rfl rfl ?_
              refine rw_gu rfl rfl rfl ?_
              refine a_gu rfl rfl rfl trivial ?_
              refine rw_gf rfl rfl (by decide) rfl ?_
              refine rw_p rfl rfl (y_pickT rfl rfl) ?_
              refine rw_p rfl rfl (y_pickT rfl rfl) ?_
              refine rw_p rfl rfl (y_assign rfl) ?_
              refine rw_done ?_
              refine gn_sq ?_
              refine HW_ret rfl ?_
              refine toR (fin hret rfl (.tmp rfl .nil) .one ?_)
              exact ⟨rfl, hm.to⟩
            ·
              refine HW_text (.act 0 (.pure 1 (.pure 2 (.pure 3 (.pure 4 (.pure 5 (.pure 6 (.pure 7 (.act 8 (.pure 9 (.pure 10 (.pure 11 (.pure 12 (.pure 13 (.pure 14 (.act 15 (.pure 16 (.pure 17 (.pure 18 (.pure 19 .done)))))))))))))))))))) (by kernel_rfl) ?_
              refine a_call rfl rfl rfl go9 (law_alive _) fun v w hR => ?_
              obtain ⟨rfl, hE⟩ := hR
              refine ⟨trivial, ?_⟩
              replace hm := hm.ext hE
              refine rw_p rfl rfl (y_move rfl) ?_
              refine rw_p rfl rfl (y_move rfl) ?_
              refine rw_p rfl rfl (y_move rfl) ?_
              refine rw_p rfl rfl (y_as (c := false) (y_beql rfl rfl un4) (by rw [h1, hSh]; rfl)) ?_
              refine rw_p rfl rfl (y_move rfl) ?_
              refine rw_gf rfl rfl (by decide) rfl ?_
              refine rw_gf rfl rfl (by decide) rfl ?_
              refine a_gf rfl rfl (by decide) rfl trivial ?_
              refine rw_p rfl rfl (y_pickF rfl rfl) ?_
              refine rw_p rfl rfl (y_move rfl) ?_
              refine rw_p rfl rfl (y_as (c := true) (y_move rfl) h1) ?_
              refine rw_p rfl rfl (y_move rfl) ?_
              refine rw_p rfl rfl (y_loadA (s := 5) (vs := [_, _, _, _, _]) rfl ag43 (hm.nt 1 rfl) rfl) ?_
              refine rw_p rfl rfl (y_loadA (s := 5) (vs := [_, _, _, _, _]) rfl ag43 (hm.nt 4 rfl) rfl) ?_
              refine a_call rfl rfl rfl go29 (C.as (v := .bool true) (rec_same (Pl.jla T) nr p_u np cap_u nc _ (ha_u.rd hm 2 rfl) (hnp.ext0 hm.to)) (congrArg Value.bool (by unfold Pl.jla; rw [if_pos h1, h2]; exact Pl.rsame_refl _))) fun v w hR => ?_
              obtain ⟨rfl, hE⟩ := hR
              refine ⟨trivial, ?_⟩
              replace hm := hm.ext hE
              refine rw_p rfl rfl (y_pickT rfl rfl) ?_
              refine rw_p rfl rfl (y_pickF rfl rfl) ?_
              refine rw_p rfl rfl (y_pickT rfl rfl) ?_
              refine rw_p rfl rfl (y_assign rfl) ?_
              refine rw_done ?_
              refine gn_sq ?_
              refine HW_ret rfl ?_
              refine toR (fin hret rfl (.tmp rfl .nil) .one ?_)
              exact ⟨rfl, hm.to⟩
            ·
              refine HW_text (.act 0 (.pure 1 (.pure 2 (.pure 3 (.pure 4 (.pure 5 (.pure 6 (.pure 7 (.act 8 (.pure 9 (.pure 10 (.pure 11 (.pure 12 (.pure 13 (.pure 14 (.act 15 (.pure 16 (.pure 17 (.pure 18 (.pure 19 .done)))))))))))))))))))) (by kernel_rfl) ?_
              refine a_call rfl rfl rfl go9 (law_alive _) fun v w hR => ?_
              obtain ⟨rfl, hE⟩ := hR
              refine ⟨trivial, ?_⟩
              replace hm := hm.ext hE
              refine rw_p rfl rfl (y_move rfl) ?_
              refine rw_p rfl rfl (y_move rfl) ?_
              refine rw_p rfl rfl (y_move rfl) ?_
              refine rw_p rfl rfl (y_as (c := true) (y_beql rfl rfl un4) (by rw [h1, hSh]; rfl)) ?_
              refine rw_p rfl rfl (y_move rfl) ?_
              refine rw_p rfl rfl (y_loadA (s := 5) (vs := [_, _, _, _, _]) rfl ag43 (hm.nt 1 rfl) rfl) ?_
              refine rw_p rfl rfl (y_loadA (s := 5) (vs := [_, _, _, _, _]) rfl ag43 (hm.nt 5 rfl) rfl) ?_
              refine a_call rfl rfl rfl go29 (C.as (v := .bool true) (rec_same (Pl.jla T) (Pl.jla S) p_u p_z cap_u cap_z _ (ha_u.rd hm 2 rfl) (ha_z.rd hm 6 rfl)) (congrArg Value.bool hss)) fun v w hR => ?_
              obtain ⟨rfl, hE⟩ := hR
              refine ⟨trivial, ?_⟩
              replace hm := hm.ext hE
              refine rw_p rfl rfl (y_pickT rfl rfl) ?_
              refine rw_p rfl rfl (y_move rfl) ?_
              refine rw_gf rfl rfl (by decide) rfl ?_
              refine rw_gf rfl rfl (by decide) rfl ?_
              refine rw_gu rfl rfl rfl ?_
              refine rw_gu rfl rfl rfl ?_
              refine a_gu rfl rfl rfl trivial ?_
              refine rw_gf rfl rfl (by decide) rfl ?_
              refine rw_p rfl rfl (y_pickT rfl rfl) ?_
              refine rw_p rfl rfl (y_pickT rfl rfl) ?_
              refine rw_p rfl rfl (y_assign rfl) ?_
              refine rw_done ?_
              refine gn_sq ?_
              refine HW_ret rfl ?_
              refine toR (fin hret rfl (.tmp rfl .nil) .one ?_)
              exact ⟨rfl, hm.to⟩
            ·
              refine HW_text (.act 0 (.pure 1 (.pure 2 (.pure 3 (.pure 4 (.pure 5 (.pure 6 (.pure 7 (.act 8 (.pure 9 (.pure 10 (.pure 11 (.pure 12 (.pure 13 (.pure 14 (.act 15 (.pure 16 (.pure 17 (.pure 18 (.pure 19 .done)))))))))))))))))))) (by kernel_rfl) ?_
              refine a_call rfl rfl rfl go9 (law_alive _) fun v w hR => ?_
              obtain ⟨rfl, hE⟩ := hR
              refine ⟨trivial, ?_⟩
              replace hm := hm.ext hE
              refine rw_p rfl rfl (y_move rfl) ?_
              refine rw_p rfl rfl (y_move rfl) ?_
              refine rw_p rfl rfl (y_move rfl) ?_
              refine rw_p rfl rfl (y_as (c := true) (y_beql rfl rfl un4) (by rw [h1, hSh]; rfl)) ?_
              refine rw_p rfl rfl (y_move rfl) ?_
              refine rw_p rfl rfl (y_loadA (s := 5) (vs := [_, _, _, _, _]) rfl ag43 (hm.nt 1 rfl) rfl) ?_
              refine rw_p rfl rfl (y_loadA (s := 5) (vs := [_, _, _, _, _]) rfl ag43 (hm.nt 5 rfl) rfl) ?_
              refine a_call rfl rfl rfl go29 (C.as (v := .bool false) (rec_same (Pl.jla T) (Pl.jla S) p_u p_z cap_u cap_z _ (ha_u.rd hm 2 rfl) (ha_z.rd hm 6 rfl)) (congrArg Value.bool hss)) fun v w hR => ?_
              obtain ⟨rfl, hE⟩ := hR
              refine ⟨trivial, ?_⟩
              replace hm := hm.ext hE
              refine rw_p rfl rfl (y_pickT rfl rfl) ?_
              refine rw_p rfl rfl (y_move rfl) ?_
              refine rw_p rfl rfl (y_as (c := true) (y_move rfl) h1) ?_
              refine rw_p rfl rfl (y_move rfl) ?_
              refine rw_p rfl rfl (y_loadA (s := 5) (vs := [_, _, _, _, _]) rfl ag43 (hm.nt 1 rfl) rfl) ?_
              refine rw_p rfl rfl (y_loadA (s := 5) (vs := [_, _, _, _, _]) rfl ag43 (hm.nt 4 rfl) rfl) ?_
              refine a_call rfl rfl rfl go29 (C.as (v := .bool true) (rec_same (Pl.jla T) nr p_u np cap_u nc _ (ha_u.rd hm 2 rfl) (hnp.ext0 hm.to)) (congrArg Value.bool (by unfold Pl.jla; rw [if_pos h1, h2]; exact Pl.rsame_refl _))) fun v w hR => ?_
              obtain ⟨rfl, hE⟩ := hR
              refine ⟨trivial, ?_⟩
              replace hm := hm.ext hE
              refine rw_p rfl rfl (y_pickT rfl rfl) ?_
              refine rw_p rfl rfl (y_pickF rfl rfl) ?_
              refine rw_p rfl rfl (y_pickT rfl rfl) ?_
              refine rw_p rfl rfl (y_assign rfl) ?_
              refine rw_done ?_
              refine gn_sq ?_
              refine HW_ret rfl ?_
              refine toR (fin hret rfl (.tmp rfl .nil) .one ?_)
              exact ⟨rfl, hm.to⟩
  ·
    refine HW_text (.pure 0 (.act 1 (.pure 2 (.pure 3 (.pure 4 (.pure 5 (.pure 6 .done))))))) (by kernel_rfl) ?_
    refine rw_p rfl rfl (y_loadA (s := 6) (vs := [_, _, _, _, _, _]) rfl ag29 (hm.nt 1 rfl) rfl) ?_
    refine a_call rfl rfl rfl go11 (dv_bad u1 u2 pb cb bs f b k _ (hbk.ext hm.to) hu1 hu2 hmk) fun v w hR => ?_
    obtain ⟨rfl, hE⟩ := hR
    refine ⟨trivial, ?_⟩
    replace hm := hm.ext hE
    refine rw_p rfl rfl (y_move rfl) ?_
    refine rw_p rfl rfl (y_extract rfl rfl) ?_
    refine rw_p rfl rfl (y_extract rfl rfl) ?_
    refine rw_p rfl rfl (y_assign rfl) ?_
    refine rw_p rfl rfl (y_assign rfl) ?_
    refine rw_done ?_
    refine gn_sq ?_
    refine HW_seq rfl ?_
    refine HW_seq rfl ?_
    cases hfw : fewB xs
    ·
      refine HW_text (.pure 0 (.pure 1 (.pure 2 (.pure 3 (.act 4 (.pure 5 (.pure 6 (.pure 7 (.pure 8 (.pure 9 (.pure 10 (.pure 11 (.pure 12 (.act 13 (.pure 14 (.pure 15 .done)))))))))))))))) (by kernel_rfl) ?_
      refine rw_p rfl rfl (y_move rfl) ?_
      refine rw_p rfl rfl (y_pnil rfl rfl pb33) ?_
      refine rw_p rfl rfl (y_move rfl) ?_
      refine rw_gf rfl rfl (by decide) rfl ?_
      refine a_gf rfl rfl (by decide) rfl trivial ?_
      refine rw_gf rfl rfl (by decide) rfl ?_
      refine rw_p rfl rfl (y_pickT rfl rfl) ?_
      refine rw_p rfl rfl (y_move rfl) ?_
      refine rw_gf rfl rfl (by decide) rfl ?_
      refine rw_gf rfl rfl (by decide) rfl ?_
      refine rw_gf rfl rfl (by decide) rfl ?_
      refine rw_gf rfl rfl (by decide) rfl ?_
      refine rw_gf rfl rfl (by decide) rfl ?_
      refine a_gf rfl rfl (by decide) rfl trivial ?_
      refine rw_gf rfl rfl (by decide) rfl ?_
      refine rw_p rfl rfl (y_pickT rfl rfl) ?_
      refine rw_done ?_
      refine gn_sq ?_
      refine HW_condT rfl rfl rfl ?_
      refine HW_seq rfl ?_
      refine HW_text (.act 0 (.pure 1 .done)) (by kernel_rfl) ?_
      refine a_call rfl rfl rfl go9 (law_alive _) fun v w hR => ?_
      obtain ⟨rfl, hE⟩ := hR
      refine ⟨trivial, ?_⟩
      replace hm := hm.ext hE
      refine rw_p rfl rfl (y_assign rfl) ?_
      refine rw_done ?_
      refine gn_sq ?_
      refine HW_ret rfl ?_
      refine gr_sq ?_
      refine toR (fin hret rfl (.tmp rfl .nil) .one ?_)
      exact ⟨rfl, hm.to⟩
    ·
      refine HW_text (.pure 0 (.pure 1 (.pure 2 (.pure 3 (.act 4 (.pure 5 (.pure 6 (.pure 7 (.pure 8 (.pure 9 (.pure 10 (.pure 11 (.pure 12 (.act 13 (.pure 14 (.pure 15 .done)))))))))))))))) (by kernel_rfl) ?_
      refine rw_p rfl rfl (y_move rfl) ?_
      refine rw_p rfl rfl (y_pnil rfl rfl pb33) ?_
      refine rw_p rfl rfl (y_move rfl) ?_
      refine rw_gf rfl rfl (by decide) rfl ?_
      refine a_gf rfl rfl (by decide) rfl trivial ?_
      refine rw_gf rfl rfl (by decide) rfl ?_
      refine rw_p rfl rfl (y_pickT rfl rfl) ?_
      refine rw_p rfl rfl (y_move rfl) ?_
      refine rw_gf rfl rfl (by decide) rfl ?_
      refine rw_gf rfl rfl (by decide) rfl ?_
      refine rw_gf rfl rfl (by decide) rfl ?_
      refine rw_gf rfl rfl (by decide) rfl ?_
      refine rw_gf rfl rfl (by decide) rfl ?_
      refine a_gf rfl rfl (by decide) rfl trivial ?_
      refine rw_gf rfl rfl (by decide) rfl ?_
      refine rw_p rfl rfl (y_pickT rfl rfl) ?_
      refine rw_done ?_
      refine gn_sq ?_
      refine HW_condT rfl rfl rfl ?_
      refine HW_seq rfl ?_
      refine HW_text (.act 0 (.pure 1 .done)) (by kernel_rfl) ?_
      refine a_call rfl rfl rfl go9 (law_alive _) fun v w hR => ?_
      obtain ⟨rfl, hE⟩ := hR
      refine ⟨trivial, ?_⟩
      replace hm := hm.ext hE
      refine rw_p rfl rfl (y_assign rfl) ?_
      refine rw_done ?_
      refine gn_sq ?_
      refine HW_ret rfl ?_
      refine gr_sq ?_
      refine toR (fin hret rfl (.tmp rfl .nil) .one ?_)
      exact ⟨rfl, hm.to⟩

end Go.Proofs.Ythailbggeafckaa
