/- Contracts of functions of the program: what each returns. Conditions: the hypotheses of each theorem. -/
import Derived.Test.YtkllojjpaelmhaaFioD
set_option linter.unusedVariables false
set_option linter.unusedSimpArgs false
namespace Go.Proofs.Ytkllojjpaelmhaa
open Go Go.Cx

theorem fo29_0 : fldO Try.prog 29 0 = some 0 := by kernel_rfl
theorem fo29_1 : fldO Try.prog 29 1 = some 1 := by kernel_rfl
theorem fo29_2 : fldO Try.prog 29 2 = some 2 := by kernel_rfl
theorem go28 : isGo Try.prog 28 = true := by kernel_rfl
theorem go32 : isGo Try.prog 32 = true := by kernel_rfl
theorem go33 : isGo Try.prog 33 = true := by kernel_rfl

theorem r19_right (x y n : Int) (w0 : World) (hn : Pl.I64 n) : C Try.prog 32 [.int .i64 x, .int .i64 y, .int .i64 n] w0 fun v w' => v = .bool (Pl.right x y n) ∧ Ext No w0 w' := by
  refine C_of Try.func32 rfl rfl rfl fun κ hret hnorm => ?_
  have hm := Mem.start w0
  refine HW_seq rfl ?_
  refine HW_text (.pure 0 .done) (by kernel_rfl) ?_
  refine rw_p rfl rfl (y_assign rfl) ?_
  refine rw_done ?_
  refine gn_sq ?_
  refine HW_seq rfl ?_
  refine HW_text (.pure 0 (.pure 1 (.pure 2 (.pure 3 (.pure 4 (.pure 5 (.pure 6 (.pure 7 (.pure 8 (.pure 9 (.pure 10 (.pure 11 (.pure 12 (.pure 13 (.pure 14 (.pure 15 (.pure 16 (.pure 17 (.pure 18 (.pure 19 (.pure 20 (.pure 21 (.pure 22 (.pure 23 (.pure 24 (.pure 25 (.pure 26 (.pure 27 .done)))))))))))))))))))))))))))) (by kernel_rfl) ?_
  refine rw_p rfl rfl (y_move rfl) ?_
  refine rw_p rfl rfl (y_ge rfl rfl) ?_
  refine rw_p rfl rfl (y_move rfl) ?_
  refine rw_g rfl rfl rfl (fun hc => (y_move rfl)) ?_
  refine rw_g rfl rfl rfl (fun hc => (y_ge (gx hc rfl) rfl)) ?_
  refine rw_p rfl rfl (y_and rfl rfl rfl) ?_
  refine rw_p rfl rfl (y_move rfl) ?_
  refine rw_g rfl rfl rfl (fun hc => (y_move rfl)) ?_
  refine rw_g rfl rfl rfl (fun hc => (y_le (gx hc rfl) rfl)) ?_
  refine rw_p rfl rfl (y_and rfl rfl rfl) ?_
  refine rw_p rfl rfl (y_move rfl) ?_
  refine rw_g rfl rfl rfl (fun hc => (y_move rfl)) ?_
  refine rw_g rfl rfl rfl (fun hc => (y_le (gx hc rfl) rfl)) ?_
  refine rw_p rfl rfl (y_and rfl rfl rfl) ?_
  refine rw_p rfl rfl (y_move rfl) ?_
  refine rw_g rfl rfl rfl (fun hc => (y_move rfl)) ?_
  refine rw_g rfl rfl rfl (fun hc => (y_move rfl)) ?_
  refine rw_g rfl rfl rfl (fun hc => (y_mul (gx hc rfl) (gx hc rfl) (prodW (by simp at hc; omega)))) ?_
  refine rw_g rfl rfl rfl (fun hc => (y_le (gx hc rfl) rfl)) ?_
  refine rw_p rfl rfl (y_and rfl rfl rfl) ?_
  refine rw_p rfl rfl (y_move rfl) ?_
  refine rw_g rfl rfl rfl (fun hc => (y_move rfl)) ?_
  refine rw_g rfl rfl rfl (fun hc => (y_move rfl)) ?_
  refine rw_g rfl rfl rfl (fun hc => (y_move rfl)) ?_
  refine rw_g rfl rfl rfl (fun hc => (y_mul (gx hc rfl) (gx hc rfl) (prodW (by simp at hc; omega)))) ?_
  refine rw_g rfl rfl rfl (fun hc => (y_le (gx hc rfl) (gx hc rfl))) ?_
  refine rw_p rfl rfl (y_and rfl rfl rfl) ?_
  refine rw_p rfl rfl (y_assign rfl) ?_
  refine rw_done ?_
  refine gn_sq ?_
  refine HW_ret rfl ?_
  refine toR (fin hret rfl (.tmp rfl .nil) .one ?_)
  exact ⟨congrArg Value.bool (right_b x y n), hm.to⟩

theorem o_newN (a c : Nat) (q : Option Addr) (cq : Nat) (ps : List SB) (w0 : World) (hq : Rd w0 q (ps.flatMap encS)) (hps : ∀ s ∈ ps, Rd w0 s.p (s.bs.flatMap encB)) (hl : ps.length ≤ 4611686018427387903) (hb : (ps.flatMap (·.bs)).length ≤ 140737488355328) (BB : List UInt8) (hBB : ps.flatMap (·.bs) = BB) (hr : Pl.right a c BB.length = true) : C Try.prog 28 [.int .i64 (a : Int), .int .i64 (c : Int), .slice q ps.length cq] w0 fun v w' => ∃ m Z, v = .pointer (some ⟨m, 0, none⟩) ∧ DevZ 79 83 5 (Pl.nDv a c BB) m Z ∧ Mem w0 w' No Z := o_new a c q cq ps w0 hq hps hl hb BB hBB hr

set_option maxHeartbeats 1600000 in
theorem mk_ok (a c : Nat) (pb : Option Addr) (cb : Nat) (bs : List UInt8) (w0 : World) (hbk : SB.ok w0 ⟨pb, cb, bs⟩) (hrt : Pl.right (a : Int) (c : Int) bs.length = true) (h2k : c * a ≤ 2000) : C Try.prog 11 [.agg ⟨[.int .i64 (a : Int), .int .i64 (c : Int), .slice pb bs.length cb]⟩] w0 fun v w' => ∃ m mr Zw Zr, v = .tuple ⟨[.pointer (some ⟨m, 0, none⟩), .pointer (some ⟨mr, 0, none⟩)]⟩ ∧ DevZ 79 83 5 (Pl.nDv a c bs) m Zw ∧ RefZ 52 87 5 (Pl.nDv a c bs) mr Zr ∧ Mem w0 w' No (Zw ++ Zr) := by
  have hbl := hbk.le
  have hbm := hbk.max
  simp only at hbl hbm
  obtain ⟨h1, h2, h3, h4⟩ := Pl.right_of hrt
  have hac : (a : Int) * (c : Int) = ((c * a : Nat) : Int) := by rw [Nat.mul_comm]; norm_cast
  rw [hac] at h3 h4
  have hca : 1 ≤ c * a := Nat.mul_pos (by omega) (by omega)
  have hMM : IntKind.i64.wrap ((a : Int) * (c : Int)) = ((c * a : Nat) : Int) := by rw [hac]; exact i64w (by omega) (by omega)
  refine C_of Try.func11 rfl rfl rfl fun κ hret hnorm => ?_
  have hm := Mem.start w0
  refine HW_seq rfl ?_
  refine HW_text (.act 0 (.pure 1 (.pure 2 .done))) (by kernel_rfl) ?_
  refine a_box rfl rfl rfl rfl hm trivial fun m1 w hg_m1 hm hh => ?_
  refine rw_p rfl rfl (y_assign rfl) ?_
  refine rw_p rfl rfl (y_assign rfl) ?_
  refine rw_done ?_
  refine gn_sq ?_
  refine HW_seq rfl ?_
  refine HW_seq rfl ?_
  refine HW_text (.pure 0 (.pure 1 (.pure 2 (.pure 3 (.pure 4 (.pure 5 (.pure 6 (.act 7 (.pure 8 (.pure 9 (.pure 10 (.pure 11 (.pure 12 (.pure 13 (.pure 14 (.pure 15 (.pure 16 .done))))))))))))))))) (by kernel_rfl) ?_
  refine rw_p rfl rfl (y_fieldAddr rfl fo29_0) ?_
  refine rw_p rfl rfl (y_load rfl sc3 (hm.nt 0 rfl) rfl) ?_
  refine rw_p rfl rfl (y_fieldAddr rfl fo29_1) ?_
  refine rw_p rfl rfl (y_load rfl sc3 (hm.nt 0 rfl) rfl) ?_
  refine rw_p rfl rfl (y_fieldAddr rfl fo29_2) ?_
  refine rw_p rfl rfl (y_load rfl sc27 (hm.nt 0 rfl) rfl) ?_
  refine rw_p rfl rfl (y_len rfl rfl sl27) ?_
  refine a_call rfl rfl rfl go32 (C.as (v := .bool true) (r19_right a c bs.length _ (by unfold Pl.I64; omega)) (by rw [hrt])) fun v w hR => ?_
  obtain ⟨rfl, hE⟩ := hR
  refine ⟨trivial, ?_⟩
  replace hm := hm.ext hE
  refine rw_p rfl rfl (y_not rfl) ?_
  refine rw_p rfl rfl (y_move rfl) ?_
  refine rw_p rfl rfl (y_fieldAddr rfl fo29_0) ?_
  refine rw_p rfl rfl (y_load rfl sc3 (hm.nt 0 rfl) rfl) ?_
  refine rw_p rfl rfl (y_fieldAddr rfl fo29_1) ?_
  refine rw_p rfl rfl (y_load rfl sc3 (hm.nt 0 rfl) rfl) ?_
  refine rw_p rfl rfl (y_mul rfl rfl hMM) ?_
  refine rw_p rfl rfl (y_as (c := false) (y_gt rfl rfl) (decide_eq_false (by omega))) ?_
  refine rw_p rfl rfl (y_pickF rfl rfl) ?_
  refine rw_done ?_
  refine gn_sq ?_
  refine HW_condF rfl rfl rfl ?_
  refine HW_skip rfl ?_
  refine gn_sq ?_
  refine HW_seq rfl ?_
  refine HW_draw (.pure 0 (.pure 1 (.pure 2 (.pure 3 (.pure 4 (.pure 5 (.pure 8 (.pure 9 (.pure 10 (.pure 11 (.pure 12 (.pure 13 (.act 6 (.act 7 (.cut (.act 14 (.pure 15 (.pure 16 .done)))))))))))))))))) No mix (by kernel_rfl) hm fun w hw hm0 hh => ?_
  have hm := hm0
  refine rw_p rfl rfl (y_fieldAddr rfl fo29_0) ?_
  refine rw_p rfl rfl (y_load rfl sc3 (hm0.nd 0 rfl id) rfl) ?_
  refine rw_p rfl rfl (y_fieldAddr rfl fo29_1) ?_
  refine rw_p rfl rfl (y_load rfl sc3 (hm0.nd 0 rfl id) rfl) ?_
  refine rw_p rfl rfl (y_fieldAddr rfl fo29_2) ?_
  refine rw_p rfl rfl (y_load rfl sc27 (hm0.nd 0 rfl id) rfl) ?_
  refine rw_p rfl rfl (y_fieldAddr rfl fo29_0) ?_
  refine rw_p rfl rfl (y_load rfl sc3 (hm0.nd 0 rfl id) rfl) ?_
  refine rw_p rfl rfl (y_fieldAddr rfl fo29_1) ?_
  refine rw_p rfl rfl (y_load rfl sc3 (hm0.nd 0 rfl id) rfl) ?_
  refine rw_p rfl rfl (y_fieldAddr rfl fo29_2) ?_
  refine rw_p rfl rfl (y_load rfl sc27 (hm0.nd 0 rfl id) rfl) ?_
  refine a_buildSlice (l := [_]) rfl rfl sl96 z27 rfl rfl rfl rfl rfl rfl rfl hm hh fun m2 w hg_m2 hm hh => ?_
  refine a_call rfl rfl rfl go28 (o_newN a c _ 1 [⟨pb, cb, bs⟩] _ (Rd.row0 (hm.get (k := 0) rfl)) (fun s hs => by rw [List.mem_singleton.1 hs]; exact hbk.rd.ext0 hm.to) (by simp) (by simp; omega) bs (by simp) hrt) fun v w hR => ?_
  obtain ⟨m, Zw, rfl, hz, hmc⟩ := hR
  refine ⟨Hold.ext hh hmc.to, ?_⟩
  replace hm := hm.callTZ hmc
  replace hh := Hold.ext hh hmc.to
  refine a_cut ?_
  refine a_call rfl rfl rfl go33 (rf_new a c pb cb bs _ (hbk.rd.ext0 hm.to) (by omega) (by omega) (by omega) (by omega)) fun v w hR => ?_
  obtain ⟨mr, Zr, rfl, hy, hmc⟩ := hR
  refine ⟨trivial, ?_⟩
  replace hm := Mem.callT2 (A := [_, _]) hm hmc
  refine rw_p rfl rfl (y_assign rfl) ?_
  refine rw_p rfl rfl (y_assign rfl) ?_
  refine rw_done ?_
  refine gn_sq ?_
  refine HW_ret rfl ?_
  refine toR (fin hret rfl (.tmp rfl (.tmp rfl .nil)) .more ?_)
  exact ⟨m, mr, Zw, Zr, rfl, hz, hy, (hm.pickT [] 2 rfl)⟩

theorem mk_bad (u1 u2 : Int) (pb : Option Addr) (cb : Nat) (bs : List UInt8) (w0 : World) (hbk : SB.ok w0 ⟨pb, cb, bs⟩) (hu1 : Pl.I64 u1) (hu2 : Pl.I64 u2) (hno : ¬ (Pl.right u1 u2 bs.length = true ∧ u1 * u2 ≤ 2000)) : C Try.prog 11 [.agg ⟨[.int .i64 u1, .int .i64 u2, .slice pb bs.length cb]⟩] w0 fun v w' => v = .tuple ⟨[.pointer none, .pointer none]⟩ ∧ Ext No w0 w' := by
  have hbl := hbk.le
  have hbm := hbk.max
  simp only at hbl hbm
  refine C_of Try.func11 rfl rfl rfl fun κ hret hnorm => ?_
  have hm := Mem.start w0
  refine HW_seq rfl ?_
  refine HW_text (.act 0 (.pure 1 (.pure 2 .done))) (by kernel_rfl) ?_
  refine a_box rfl rfl rfl rfl hm trivial fun m1 w hg_m1 hm hh => ?_
  refine rw_p rfl rfl (y_assign rfl) ?_
  refine rw_p rfl rfl (y_assign rfl) ?_
  refine rw_done ?_
  refine gn_sq ?_
  refine HW_seq rfl ?_
  refine HW_seq rfl ?_
  cases hrt : Pl.right u1 u2 bs.length
  ·
    refine HW_text (.pure 0 (.pure 1 (.pure 2 (.pure 3 (.pure 4 (.pure 5 (.pure 6 (.act 7 (.pure 8 (.pure 9 (.pure 10 (.pure 11 (.pure 12 (.pure 13 (.pure 14 (.pure 15 (.pure 16 .done))))))))))))))))) (by kernel_rfl) ?_
    refine rw_p rfl rfl (y_fieldAddr rfl fo29_0) ?_
    refine rw_p rfl rfl (y_load rfl sc3 (hm.nt 0 rfl) rfl) ?_
    refine rw_p rfl rfl (y_fieldAddr rfl fo29_1) ?_
    refine rw_p rfl rfl (y_load rfl sc3 (hm.nt 0 rfl) rfl) ?_
    refine rw_p rfl rfl (y_fieldAddr rfl fo29_2) ?_
    refine rw_p rfl rfl (y_load rfl sc27 (hm.nt 0 rfl) rfl) ?_
    refine rw_p rfl rfl (y_len rfl rfl sl27) ?_
    refine a_call rfl rfl rfl go32 (C.as (v := .bool false) (r19_right u1 u2 bs.length _ (by unfold Pl.I64; omega)) (by rw [hrt])) fun v w hR => ?_
    obtain ⟨rfl, hE⟩ := hR
    refine ⟨trivial, ?_⟩
    replace hm := hm.ext hE
    refine rw_p rfl rfl (y_not rfl) ?_
    refine rw_p rfl rfl (y_move rfl) ?_
    refine rw_gf rfl rfl (by decide) rfl ?_
    refine rw_gf rfl rfl (by decide) rfl ?_
    refine rw_gf rfl rfl (by decide) rfl ?_
    refine rw_gf rfl rfl (by decide) rfl ?_
    refine rw_gf rfl rfl (by decide) rfl ?_
    refine rw_gf rfl rfl (by decide) rfl ?_
    refine rw_p rfl rfl (y_pickT rfl rfl) ?_
    refine rw_done ?_
    refine gn_sq ?_
    refine HW_condT rfl rfl rfl ?_
    refine HW_seq rfl ?_
    refine HW_text (.pure 0 (.pure 1 .done)) (by kernel_rfl) ?_
    refine rw_p rfl rfl (y_assign rfl) ?_
    refine rw_p rfl rfl (y_assign rfl) ?_
    refine rw_done ?_
    refine gn_sq ?_
    refine HW_ret rfl ?_
    refine gr_sq ?_
    refine toR (fin hret rfl (.tmp rfl (.tmp rfl .nil)) .more ?_)
    exact ⟨rfl, hm.to⟩
  ·
    refine HW_text (.pure 0 (.pure 1 (.pure 2 (.pure 3 (.pure 4 (.pure 5 (.pure 6 (.act 7 (.pure 8 (.pure 9 (.pure 10 (.pure 11 (.pure 12 (.pure 13 (.pure 14 (.pure 15 (.pure 16 .done))))))))))))))))) (by kernel_rfl) ?_
    refine rw_p rfl rfl (y_fieldAddr rfl fo29_0) ?_
    refine rw_p rfl rfl (y_load rfl sc3 (hm.nt 0 rfl) rfl) ?_
    refine rw_p rfl rfl (y_fieldAddr rfl fo29_1) ?_
    refine rw_p rfl rfl (y_load rfl sc3 (hm.nt 0 rfl) rfl) ?_
    refine rw_p rfl rfl (y_fieldAddr rfl fo29_2) ?_
    refine rw_p rfl rfl (y_load rfl sc27 (hm.nt 0 rfl) rfl) ?_
    refine rw_p rfl rfl (y_len rfl rfl sl27) ?_
    refine a_call rfl rfl rfl go32 (C.as (v := .bool true) (r19_right u1 u2 bs.length _ (by unfold Pl.I64; omega)) (by rw [hrt])) fun v w hR => ?_
    obtain ⟨rfl, hE⟩ := hR
    refine ⟨trivial, ?_⟩
    replace hm := hm.ext hE
    refine rw_p rfl rfl (y_not rfl) ?_
    refine rw_p rfl rfl (y_move rfl) ?_
    refine rw_p rfl rfl (y_fieldAddr rfl fo29_0) ?_
    refine rw_p rfl rfl (y_load rfl sc3 (hm.nt 0 rfl) rfl) ?_
    refine rw_p rfl rfl (y_fieldAddr rfl fo29_1) ?_
    refine rw_p rfl rfl (y_load rfl sc3 (hm.nt 0 rfl) rfl) ?_
    refine rw_p rfl rfl (y_mul rfl rfl (prodW (rightB hrt))) ?_
    refine rw_p rfl rfl (y_as (c := true) (y_gt rfl rfl) (decide_eq_true (Int.lt_of_not_ge fun h => hno ⟨hrt, h⟩))) ?_
    refine rw_p rfl rfl (y_pickF rfl rfl) ?_
    refine rw_done ?_
    refine gn_sq ?_
    refine HW_condT rfl rfl rfl ?_
    refine HW_seq rfl ?_
    refine HW_text (.pure 0 (.pure 1 .done)) (by kernel_rfl) ?_
    refine rw_p rfl rfl (y_assign rfl) ?_
    refine rw_p rfl rfl (y_assign rfl) ?_
    refine rw_done ?_
    refine gn_sq ?_
    refine HW_ret rfl ?_
    refine gr_sq ?_
    refine toR (fin hret rfl (.tmp rfl (.tmp rfl .nil)) .more ?_)
    exact ⟨rfl, hm.to⟩

theorem f_writeX (D : Pl.Dv) (m : Nat) (Z : List (Nat × Blk)) (w0 : World) (hZ : OwnZ w0 Z) (hz : DevZ 79 83 5 D m Z) (a : Int) (q : Option Addr) (cq : Nat) (ps : List SB) (BB : List UInt8) (ha : Pl.I64 a) (hon : Pl.onD D a (BB.length : Int) = false) (hq : Rd w0 q (ps.flatMap encS)) (hps : ∀ s ∈ ps, Rd w0 s.p (s.bs.flatMap encB)) (hl : ps.length ≤ 4611686018427387903) (hBB : ps.flatMap (·.bs) = BB) (hb : BB.length ≤ 140737488355328) : C Try.prog 20 [.pointer (some ⟨m, 0, none⟩), .int .i64 a, .slice q ps.length cq] w0 fun v w' => v = .int .i64 2 ∧ Mem w0 w' (Mn (reals Z)) Z := by
  refine C_ofM Try.func20 rfl rfl rfl fun κ hret hnorm => ?_
  have hm := Mem.start w0
  refine HW_seq rfl ?_
  refine HW_text (.act 0 (.act 1 (.act 2 .done))) (by kernel_rfl) ?_
  refine a_box rfl rfl rfl rfl hm trivial fun m1 w hg_m1 hm hh => ?_
  refine a_box rfl rfl rfl rfl hm trivial fun m2 w hg_m2 hm hh => ?_
  refine a_alloc rfl rfl z36 hm trivial fun m3 w hg_m3 hm hh => ?_
  refine rw_done ?_
  refine gn_sq ?_
  refine HW_seq rfl ?_
  refine HW_text (.pure 0 (.act 1 (.act 2 (.act 3 .done)))) (by kernel_rfl) ?_
  refine rw_p rfl rfl (y_move rfl) ?_
  refine a_call rfl rfl rfl go44 (concat_b q cq ps _ (hq.ext0 hm.to) (fun s hs => (hps s hs).ext0 hm.to) hl (by rw [hBB]; exact hb)) fun v w hR => ?_
  obtain ⟨p_s, n_s, cap_s, g_s, b_s, rfl, ha_s, hmc⟩ := hR
  refine ⟨trivial, ?_⟩
  have hns := ha_s.lenB
  replace hm := hm.callN hmc
  rw [hBB] at ha_s hns
  refine a_alloc rfl rfl z27 hm trivial fun m4 w hg_m4 hm hh => ?_
  refine a_store rfl rfl rfl rfl sz27 rfl hm 0 rfl rfl fun w hm => ?_
  refine rw_done ?_
  refine gn_sq ?_
  refine HW_seq rfl ?_
  refine HW_text (.pure 0 (.pure 1 (.pure 2 (.pure 3 (.act 4 (.act 5 .done)))))) (by kernel_rfl) ?_
  refine rw_p rfl rfl (y_load rfl sc3 (hm.nt 3 rfl) rfl) ?_
  refine rw_p rfl rfl (y_load rfl sc27 (hm.nt 0 rfl) rfl) ?_
  refine rw_p rfl rfl (y_len rfl rfl sl27) ?_
  refine rw_p rfl rfl (y_v (y_build (cs := [_, _]) z23 ft23 rfl rfl rfl rfl rfl) (show _ = Value.agg ⟨[.int .i64 a, .int .i64 (BB.length : Int)]⟩ by rw [hns])) ?_
  refine a_alloc rfl rfl z23 hm trivial fun m5 w hg_m5 hm hh => ?_
  refine a_store rfl rfl rfl rfl sz23 rfl hm 0 rfl rfl fun w hm => ?_
  refine rw_done ?_
  refine gn_sq ?_
  refine HW_seq rfl ?_
  refine HW_seq rfl ?_
  refine HW_text (.pure 0 (.pure 1 (.act 2 (.pure 3 .done)))) (by kernel_rfl) ?_
  refine rw_p rfl rfl (y_load rfl sc30 (hm.nt 5 rfl) rfl) ?_
  refine rw_p rfl rfl (y_loadA (s := 2) (vs := [_, _]) rfl ag23 (hm.nt 0 rfl) rfl) ?_
  refine a_call rfl rfl rfl go39 (C.as (v := .int .i64 2) (f_check D m Z _ (hZ.ext hm.to) hz a (BB.length : Int) ha (by simp only [Pl.I64]; omega)) (by rw [hon]; rfl)) fun v w hR => ?_
  obtain ⟨rfl, hE⟩ := hR
  refine ⟨trivial, ?_⟩
  replace hm := hm.ext hE
  refine rw_p rfl rfl (y_assign rfl) ?_
  refine rw_done ?_
  refine gn_sq ?_
  refine HW_seq rfl ?_
  refine HW_text (.pure 0 (.pure 1 .done)) (by kernel_rfl) ?_
  refine rw_p rfl rfl (y_move rfl) ?_
  refine rw_p rfl rfl (y_as (c := true) (y_ne rfl rfl) (by decide)) ?_
  refine rw_done ?_
  refine gn_sq ?_
  refine HW_condT rfl rfl rfl ?_
  refine HW_seq rfl ?_
  refine HW_text (.pure 0 (.act 1 .done)) (by kernel_rfl) ?_
  refine rw_p rfl rfl (y_move rfl) ?_
  refine a_store rfl rfl rfl rfl sz36 rfl hm 3 rfl rfl fun w hm => ?_
  refine rw_done ?_
  refine gn_sq ?_
  refine HW_ret rfl ?_
  refine gr_sq ?_
  refine toR (fin0 hret rfl (.cell rfl (run_loadVar_s sc36 (hm.get (k := 3) rfl) rfl) .nil) .one ?_)
  exact ⟨rfl, Mem.withZ (A := []) (hm.drop (List.nil_sublist _)) hZ⟩

theorem f_writeN (a : Int) (q : Option Addr) (cq : Nat) (ps : List SB) (BB : List UInt8) (w0 : World) (hq : Rd w0 q (ps.flatMap encS)) (hps : ∀ s ∈ ps, Rd w0 s.p (s.bs.flatMap encB)) (hl : ps.length ≤ 4611686018427387903) (hBB : ps.flatMap (·.bs) = BB) (hb : BB.length ≤ 140737488355328) : C Try.prog 20 [.pointer none, .int .i64 a, .slice q ps.length cq] w0 fun v w' => v = .int .i64 1 ∧ Ext No w0 w' := by
  refine C_ofM Try.func20 rfl rfl rfl fun κ hret hnorm => ?_
  have hm := Mem.start w0
  refine HW_seq rfl ?_
  refine HW_text (.act 0 (.act 1 (.act 2 .done))) (by kernel_rfl) ?_
  refine a_box rfl rfl rfl rfl hm trivial fun m1 w hg_m1 hm hh => ?_
  refine a_box rfl rfl rfl rfl hm trivial fun m2 w hg_m2 hm hh => ?_
  refine a_alloc rfl rfl z36 hm trivial fun m3 w hg_m3 hm hh => ?_
  refine rw_done ?_
  refine gn_sq ?_
  refine HW_seq rfl ?_
  refine HW_text (.pure 0 (.act 1 (.act 2 (.act 3 .done)))) (by kernel_rfl) ?_
  refine rw_p rfl rfl (y_move rfl) ?_
  refine a_call rfl rfl rfl go44 (concat_b q cq ps _ (hq.ext0 hm.to) (fun s hs => (hps s hs).ext0 hm.to) hl (by rw [hBB]; exact hb)) fun v w hR => ?_
  obtain ⟨p_s, n_s, cap_s, g_s, b_s, rfl, ha_s, hmc⟩ := hR
  refine ⟨trivial, ?_⟩
  have hns := ha_s.lenB
  replace hm := hm.callN hmc
  rw [hBB] at ha_s hns
  refine a_alloc rfl rfl z27 hm trivial fun m4 w hg_m4 hm hh => ?_
  refine a_store rfl rfl rfl rfl sz27 rfl hm 0 rfl rfl fun w hm => ?_
  refine rw_done ?_
  refine gn_sq ?_
  refine HW_seq rfl ?_
  refine HW_text (.pure 0 (.pure 1 (.pure 2 (.pure 3 (.act 4 (.act 5 .done)))))) (by kernel_rfl) ?_
  refine rw_p rfl rfl (y_load rfl sc3 (hm.nt 3 rfl) rfl) ?_
  refine rw_p rfl rfl (y_load rfl sc27 (hm.nt 0 rfl) rfl) ?_
  refine rw_p rfl rfl (y_len rfl rfl sl27) ?_
  refine rw_p rfl rfl (y_build (cs := [_, _]) z23 ft23 rfl rfl rfl rfl rfl) ?_
  refine a_alloc rfl rfl z23 hm trivial fun m5 w hg_m5 hm hh => ?_
  refine a_store rfl rfl rfl rfl sz23 rfl hm 0 rfl rfl fun w hm => ?_
  refine rw_done ?_
  refine gn_sq ?_
  refine HW_seq rfl ?_
  refine HW_seq rfl ?_
  refine HW_text (.pure 0 (.pure 1 (.act 2 (.pure 3 .done)))) (by kernel_rfl) ?_
  refine rw_p rfl rfl (y_load rfl sc30 (hm.nt 5 rfl) rfl) ?_
  refine rw_p rfl rfl (y_loadA (s := 2) (vs := [_, _]) rfl ag23 (hm.nt 0 rfl) rfl) ?_
  refine a_call rfl rfl rfl go39 (f_checkN _ _) fun v w hR => ?_
  obtain ⟨rfl, hE⟩ := hR
  refine ⟨trivial, ?_⟩
  replace hm := hm.ext hE
  refine rw_p rfl rfl (y_assign rfl) ?_
  refine rw_done ?_
  refine gn_sq ?_
  refine HW_seq rfl ?_
  refine HW_text (.pure 0 (.pure 1 .done)) (by kernel_rfl) ?_
  refine rw_p rfl rfl (y_move rfl) ?_
  refine rw_p rfl rfl (y_as (c := true) (y_ne rfl rfl) (by decide)) ?_
  refine rw_done ?_
  refine gn_sq ?_
  refine HW_condT rfl rfl rfl ?_
  refine HW_seq rfl ?_
  refine HW_text (.pure 0 (.act 1 .done)) (by kernel_rfl) ?_
  refine rw_p rfl rfl (y_move rfl) ?_
  refine a_store rfl rfl rfl rfl sz36 rfl hm 3 rfl rfl fun w hm => ?_
  refine rw_done ?_
  refine gn_sq ?_
  refine HW_ret rfl ?_
  refine gr_sq ?_
  refine toR (fin0 hret rfl (.cell rfl (run_loadVar_s sc36 (hm.get (k := 3) rfl) rfl) .nil) .one ?_)
  exact ⟨rfl, hm.to⟩

end Go.Proofs.Ytkllojjpaelmhaa
