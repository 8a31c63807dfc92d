/- Contracts of functions of the program: what each returns. Conditions: the hypotheses of each theorem. -/
import Derived.Test.YtkllojjpaelmhaaFioC
set_option linter.unusedVariables false
set_option linter.unusedSimpArgs false
namespace Go.Proofs.Ytkllojjpaelmhaa
open Go Go.Cx

theorem fo29_0 : fldO Try.prog 29 0 = some 0 := by kernel_rfl
theorem fo29_1 : fldO Try.prog 29 1 = some 1 := by kernel_rfl
theorem fo29_2 : fldO Try.prog 29 2 = some 2 := by kernel_rfl
theorem go28 : isGo Try.prog 28 = true := by kernel_rfl
theorem go32 : isGo Try.prog 32 = true := by kernel_rfl
theorem go33 : isGo Try.prog 33 = true := by kernel_rfl
theorem bt27_9 : bts Try.prog 27 9 = true := by kernel_rfl
theorem cb27 : slB8 Try.prog 27 = true := by kernel_rfl
theorem fv55_0 : fldV Try.prog 55 0 = some (0, 1, false) := by kernel_rfl
theorem go16 : isGo Try.prog 16 = true := by kernel_rfl
theorem go20 : isGo Try.prog 20 = true := by kernel_rfl
theorem go22 : isGo Try.prog 22 = true := by kernel_rfl
theorem iii23 : int2 Try.prog 23 = true := by kernel_rfl
theorem go8 : isGo Try.prog 8 = true := by kernel_rfl

theorem r19_right (x y n : Int) (w0 : World) (hn : Pl.I64 n) : C Try.prog 32 [.int .i64 x, .int .i64 y, .int .i64 n] w0 fun v w' => v = .bool (Pl.right x y n) ∧ Ext No w0 w' := by
  refine C_of Try.func32 rfl rfl rfl fun κ hret hnorm => ?_
  have hm := Mem.start w0
  refine HW_seq rfl ?_
  refine HW_text (.pure 0 .done) (by kernel_rfl) ?_
  refine rw_p rfl rfl (y_assign rfl) ?_
  refine rw_done ?_
  refine gn_sq ?_
  refine HW_seq rfl ?_
  refine HW_text (.pure 0 (.pure 1 (.pure 2 (.pure 3 (.pure 4 (.pure 5 (.pure 6 (.pure 7 (.pure 8 (.pure 9 (.pure 10 (.pure 11 (.pure 12 (.pure 13 (.pure 14 (.pure 15 (.pure 16 (.pure 17 (.pure 18 (.pure 19 (.pure 20 (.pure 21 (.pure 22 (.pure 23 (.pure 24 (.pure 25 (.pure 26 (.pure 27 .done)))))))))))))))))))))))))))) (by kernel_rfl) ?_
  refine rw_p rfl rfl (y_move rfl) ?_
  refine rw_p rfl rfl (y_ge rfl rfl) ?_
  refine rw_p rfl rfl (y_move rfl) ?_
  refine rw_g rfl rfl rfl (fun hc => (y_move rfl)) ?_
  refine rw_g rfl rfl rfl (fun hc => (y_ge (gx hc rfl) rfl)) ?_
  refine rw_p rfl rfl (y_and rfl rfl rfl) ?_
  refine rw_p rfl rfl (y_move rfl) ?_
  refine rw_g rfl rfl rfl (fun hc => (y_move rfl)) ?_
  refine rw_g rfl rfl rfl (fun hc => (y_le (gx hc rfl) rfl)) ?_
  refine rw_p rfl rfl (y_and rfl rfl rfl) ?_
  refine rw_p rfl rfl (y_move rfl) ?_
  refine rw_g rfl rfl rfl (fun hc => (y_move rfl)) ?_
  refine rw_g rfl rfl rfl (fun hc => (y_le (gx hc rfl) rfl)) ?_
  refine rw_p rfl rfl (y_and rfl rfl rfl) ?_
  refine rw_p rfl rfl (y_move rfl) ?_
  refine rw_g rfl rfl rfl (fun hc => (y_move rfl)) ?_
  refine rw_g rfl rfl rfl (fun hc => (y_move rfl)) ?_
  refine rw_g rfl rfl rfl (fun hc => (y_mul (gx hc rfl) (gx hc rfl) (prodW (by simp at hc; omega)))) ?_
  refine rw_g rfl rfl rfl (fun hc => (y_le (gx hc rfl) rfl)) ?_
  refine rw_p rfl rfl (y_and rfl rfl rfl) ?_
  refine rw_p rfl rfl (y_move rfl) ?_
  refine rw_g rfl rfl rfl (fun hc => (y_move rfl)) ?_
  refine rw_g rfl rfl rfl (fun hc => (y_move rfl)) ?_
  refine rw_g rfl rfl rfl (fun hc => (y_move rfl)) ?_
  refine rw_g rfl rfl rfl (fun hc => (y_mul (gx hc rfl) (gx hc rfl) (prodW (by simp at hc; omega)))) ?_
  refine rw_g rfl rfl rfl (fun hc => (y_le (gx hc rfl) (gx hc rfl))) ?_
  refine rw_p rfl rfl (y_and rfl rfl rfl) ?_
  refine rw_p rfl rfl (y_assign rfl) ?_
  refine rw_done ?_
  refine gn_sq ?_
  refine HW_ret rfl ?_
  refine toR (fin hret rfl (.tmp rfl .nil) .one ?_)
  exact ⟨congrArg Value.bool (right_b x y n), hm.to⟩

theorem o_newN (a c : Nat) (q : Option Addr) (cq : Nat) (ps : List SB) (w0 : World) (hq : Rd w0 q (ps.flatMap encS)) (hps : ∀ s ∈ ps, Rd w0 s.p (s.bs.flatMap encB)) (hl : ps.length ≤ 4611686018427387903) (hb : (ps.flatMap (·.bs)).length ≤ 140737488355328) (BB : List UInt8) (hBB : ps.flatMap (·.bs) = BB) (hr : Pl.right a c BB.length = true) : C Try.prog 28 [.int .i64 (a : Int), .int .i64 (c : Int), .slice q ps.length cq] w0 fun v w' => ∃ m Z, v = .pointer (some ⟨m, 0, none⟩) ∧ DevZ 79 83 5 (Pl.nDv a c BB) m Z ∧ Mem w0 w' No Z := o_new a c q cq ps w0 hq hps hl hb BB hBB hr

set_option maxHeartbeats 1600000 in
theorem mk_ok (a c : Nat) (pb : Option Addr) (cb : Nat) (bs : List UInt8) (w0 : World) (hbk : SB.ok w0 ⟨pb, cb, bs⟩) (hrt : Pl.right (a : Int) (c : Int) bs.length = true) (h2k : c * a ≤ 2000) : C Try.prog 11 [.agg ⟨[.int .i64 (a : Int), .int .i64 (c : Int), .slice pb bs.length cb]⟩] w0 fun v w' => ∃ m mr Zw Zr, v = .tuple ⟨[.pointer (some ⟨m, 0, none⟩), .pointer (some ⟨mr, 0, none⟩)]⟩ ∧ DevZ 79 83 5 (Pl.nDv a c bs) m Zw ∧ RefZ 52 87 5 (Pl.nDv a c bs) mr Zr ∧ Mem w0 w' No (Zw ++ Zr) := by
  have hbl := hbk.le
  have hbm := hbk.max
  simp only at hbl hbm
  obtain ⟨h1, h2, h3, h4⟩ := Pl.right_of hrt
  have hac : (a : Int) * (c : Int) = ((c * a : Nat) : Int) := by rw [Nat.mul_comm]; norm_cast
  rw [hac] at h3 h4
  have hca : 1 ≤ c * a := Nat.mul_pos (by omega) (by omega)
  have hMM : IntKind.i64.wrap ((a : Int) * (c : Int)) = ((c * a : Nat) : Int) := by rw [hac]; exact i64w (by omega) (by omega)
  refine C_of Try.func11 rfl rfl rfl fun κ hret hnorm => ?_
  have hm := Mem.start w0
  refine HW_seq rfl ?_
  refine HW_text (.act 0 (.pure 1 (.pure 2 .done))) (by kernel_rfl) ?_
  refine a_box rfl rfl rfl rfl hm trivial fun m1 w hg_m1 hm hh => ?_
  refine rw_p rfl rfl (y_assign rfl) ?_
  refine rw_p rfl rfl (y_assign rfl) ?_
  refine rw_done ?_
  refine gn_sq ?_
  refine HW_seq rfl ?_
  refine HW_seq rfl ?_
  refine HW_text (.pure 0 (.pure 1 (.pure 2 (.pure 3 (.pure 4 (.pure 5 (.pure 6 (.act 7 (.pure 8 (.pure 9 (.pure 10 (.pure 11 (.pure 12 (.pure 13 (.pure 14 (.pure 15 (.pure 16 .done))))))))))))))))) (by kernel_rfl) ?_
  refine rw_p rfl rfl (y_fieldAddr rfl fo29_0) ?_
  refine rw_p rfl rfl (y_load rfl sc3 (hm.nt 0 rfl) rfl) ?_
  refine rw_p rfl rfl (y_fieldAddr rfl fo29_1) ?_
  refine rw_p rfl rfl (y_load rfl sc3 (hm.nt 0 rfl) rfl) ?_
  refine rw_p rfl rfl (y_fieldAddr rfl fo29_2) ?_
  refine rw_p rfl rfl (y_load rfl sc27 (hm.nt 0 rfl) rfl) ?_
  refine rw_p rfl rfl (y_len rfl rfl sl27) ?_
  refine a_call rfl rfl rfl go32 (C.as (v := .bool true) (r19_right a c bs.length _ (by unfold Pl.I64; omega)) (by rw [hrt])) fun v w hR => ?_
  obtain ⟨rfl, hE⟩ := hR
  refine ⟨trivial, ?_⟩
  replace hm := hm.ext hE
  refine rw_p rfl rfl (y_not rfl) ?_
  refine rw_p rfl rfl (y_move rfl) ?_
  refine rw_p rfl rfl (y_fieldAddr rfl fo29_0) ?_
  refine rw_p rfl rfl (y_load rfl sc3 (hm.nt 0 rfl) rfl) ?_
  refine rw_p rfl rfl (y_fieldAddr rfl fo29_1) ?_
  refine rw_p rfl rfl (y_load rfl sc3 (hm.nt 0 rfl) rfl) ?_
  refine rw_p rfl rfl (y_mul rfl rfl hMM) ?_
  refine rw_p rfl rfl (y_as (c := false) (y_gt rfl rfl) (decide_eq_false (by omega))) ?_
  refine rw_p rfl rfl (y_pickF rfl rfl) ?_
  refine rw_done ?_
  refine gn_sq ?_
  refine HW_condF rfl rfl rfl ?_
  refine HW_skip rfl ?_
  refine gn_sq ?_
  refine HW_seq rfl ?_
  refine HW_draw (.pure 0 (.pure 1 (.pure 2 (.pure 3 (.pure 4 (.pure 5 (.pure 8 (.pure 9 (.pure 10 (.pure 11 (.pure 12 (.pure 13 (.act 6 (.act 7 (.cut (.act 14 (.pure 15 (.pure 16 .done)))))))))))))))))) No mix (by kernel_rfl) hm fun w hw hm0 hh => ?_
  have hm := hm0
  refine rw_p rfl rfl (y_fieldAddr rfl fo29_0) ?_
  refine rw_p rfl rfl (y_load rfl sc3 (hm0.nd 0 rfl id) rfl) ?_
  refine rw_p rfl rfl (y_fieldAddr rfl fo29_1) ?_
  refine rw_p rfl rfl (y_load rfl sc3 (hm0.nd 0 rfl id) rfl) ?_
  refine rw_p rfl rfl (y_fieldAddr rfl fo29_2) ?_
  refine rw_p rfl rfl (y_load rfl sc27 (hm0.nd 0 rfl id) rfl) ?_
  refine rw_p rfl rfl (y_fieldAddr rfl fo29_0) ?_
  refine rw_p rfl rfl (y_load rfl sc3 (hm0.nd 0 rfl id) rfl) ?_
  refine rw_p rfl rfl (y_fieldAddr rfl fo29_1) ?_
  refine rw_p rfl rfl (y_load rfl sc3 (hm0.nd 0 rfl id) rfl) ?_
  refine rw_p rfl rfl (y_fieldAddr rfl fo29_2) ?_
  refine rw_p rfl rfl (y_load rfl sc27 (hm0.nd 0 rfl id) rfl) ?_
  refine a_buildSlice (l := [_]) rfl rfl sl96 z27 rfl rfl rfl rfl rfl rfl rfl hm hh fun m2 w hg_m2 hm hh => ?_
  refine a_call rfl rfl rfl go28 (o_newN a c _ 1 [⟨pb, cb, bs⟩] _ (Rd.row0 (hm.get (k := 0) rfl)) (fun s hs => by rw [List.mem_singleton.1 hs]; exact hbk.rd.ext0 hm.to) (by simp) (by simp; omega) bs (by simp) hrt) fun v w hR => ?_
  obtain ⟨m, Zw, rfl, hz, hmc⟩ := hR
  refine ⟨Hold.ext hh hmc.to, ?_⟩
  replace hm := hm.callTZ hmc
  replace hh := Hold.ext hh hmc.to
  refine a_cut ?_
  refine a_call rfl rfl rfl go33 (rf_new a c pb cb bs _ (hbk.rd.ext0 hm.to) (by omega) (by omega) (by omega) (by omega)) fun v w hR => ?_
  obtain ⟨mr, Zr, rfl, hy, hmc⟩ := hR
  refine ⟨trivial, ?_⟩
  replace hm := Mem.callT2 (A := [_, _]) hm hmc
  refine rw_p rfl rfl (y_assign rfl) ?_
  refine rw_p rfl rfl (y_assign rfl) ?_
  refine rw_done ?_
  refine gn_sq ?_
  refine HW_ret rfl ?_
  refine toR (fin hret rfl (.tmp rfl (.tmp rfl .nil)) .more ?_)
  exact ⟨m, mr, Zw, Zr, rfl, hz, hy, (hm.pickT [] 2 rfl)⟩

theorem mk_bad (u1 u2 : Int) (pb : Option Addr) (cb : Nat) (bs : List UInt8) (w0 : World) (hbk : SB.ok w0 ⟨pb, cb, bs⟩) (hu1 : Pl.I64 u1) (hu2 : Pl.I64 u2) (hno : ¬ (Pl.right u1 u2 bs.length = true ∧ u1 * u2 ≤ 2000)) : C Try.prog 11 [.agg ⟨[.int .i64 u1, .int .i64 u2, .slice pb bs.length cb]⟩] w0 fun v w' => v = .tuple ⟨[.pointer none, .pointer none]⟩ ∧ Ext No w0 w' := by
  have hbl := hbk.le
  have hbm := hbk.max
  simp only at hbl hbm
  refine C_of Try.func11 rfl rfl rfl fun κ hret hnorm => ?_
  have hm := Mem.start w0
  refine HW_seq rfl ?_
  refine HW_text (.act 0 (.pure 1 (.pure 2 .done))) (by kernel_rfl) ?_
  refine a_box rfl rfl rfl rfl hm trivial fun m1 w hg_m1 hm hh => ?_
  refine rw_p rfl rfl (y_assign rfl) ?_
  refine rw_p rfl rfl (y_assign rfl) ?_
  refine rw_done ?_
  refine gn_sq ?_
  refine HW_seq rfl ?_
  refine HW_seq rfl ?_
  cases hrt : Pl.right u1 u2 bs.length
  ·
    refine HW_text (.pure 0 (.pure 1 (.pure 2 (.pure 3 (.pure 4 (.pure 5 (.pure 6 (.act 7 (.pure 8 (.pure 9 (.pure 10 (.pure 11 (.pure 12 (.pure 13 (.pure 14 (.pure 15 (.pure 16 .done))))))))))))))))) (by kernel_rfl) ?_
    refine rw_p rfl rfl (y_fieldAddr rfl fo29_0) ?_
    refine rw_p rfl rfl (y_load rfl sc3 (hm.nt 0 rfl) rfl) ?_
    refine rw_p rfl rfl (y_fieldAddr rfl fo29_1) ?_
    refine rw_p rfl rfl (y_load rfl sc3 (hm.nt 0 rfl) rfl) ?_
    refine rw_p rfl rfl (y_fieldAddr rfl fo29_2) ?_
    refine rw_p rfl rfl (y_load rfl sc27 (hm.nt 0 rfl) rfl) ?_
    refine rw_p rfl rfl (y_len rfl rfl sl27) ?_
    refine a_call rfl rfl rfl go32 (C.as (v := .bool false) (r19_right u1 u2 bs.length _ (by unfold Pl.I64; omega)) (by rw [hrt])) fun v w hR => ?_
    obtain ⟨rfl, hE⟩ := hR
    refine ⟨trivial, ?_⟩
    replace hm := hm.ext hE
    refine rw_p rfl rfl (y_not rfl) ?_
    refine rw_p rfl rfl (y_move rfl) ?_
    refine rw_gf rfl rfl (by decide) rfl ?_
    refine rw_gf rfl rfl (by decide) rfl ?_
    refine rw_gf rfl rfl (by decide) rfl ?_
    refine rw_gf rfl rfl (by decide) rfl ?_
    refine rw_gf rfl rfl (by decide) rfl ?_
    refine rw_gf rfl rfl (by decide) rfl ?_
    refine rw_p rfl rfl (y_pickT rfl rfl) ?_
    refine rw_done ?_
    refine gn_sq ?_
    refine HW_condT rfl rfl rfl ?_
    refine HW_seq rfl ?_
    refine HW_text (.pure 0 (.pure 1 .done)) (by kernel_rfl) ?_
    refine rw_p rfl rfl (y_assign rfl) ?_
    refine rw_p rfl rfl (y_assign rfl) ?_
    refine rw_done ?_
    refine gn_sq ?_
    refine HW_ret rfl ?_
    refine gr_sq ?_
    refine toR (fin hret rfl (.tmp rfl (.tmp rfl .nil)) .more ?_)
    exact ⟨rfl, hm.to⟩
  ·
    refine HW_text (.pure 0 (.pure 1 (.pure 2 (.pure 3 (.pure 4 (.pure 5 (.pure 6 (.act 7 (.pure 8 (.pure 9 (.pure 10 (.pure 11 (.pure 12 (.pure 13 (.pure 14 (.pure 15 (.pure 16 .done))))))))))))))))) (by kernel_rfl) ?_
    refine rw_p rfl rfl (y_fieldAddr rfl fo29_0) ?_
    refine rw_p rfl rfl (y_load rfl sc3 (hm.nt 0 rfl) rfl) ?_
    refine rw_p rfl rfl (y_fieldAddr rfl fo29_1) ?_
    refine rw_p rfl rfl (y_load rfl sc3 (hm.nt 0 rfl) rfl) ?_
    refine rw_p rfl rfl (y_fieldAddr rfl fo29_2) ?_
    refine rw_p rfl rfl (y_load rfl sc27 (hm.nt 0 rfl) rfl) ?_
    refine rw_p rfl rfl (y_len rfl rfl sl27) ?_
    refine a_call rfl rfl rfl go32 (C.as (v := .bool true) (r19_right u1 u2 bs.length _ (by unfold Pl.I64; omega)) (by rw [hrt])) fun v w hR => ?_
    obtain ⟨rfl, hE⟩ := hR
    refine ⟨trivial, ?_⟩
    replace hm := hm.ext hE
    refine rw_p rfl rfl (y_not rfl) ?_
    refine rw_p rfl rfl (y_move rfl) ?_
    refine rw_p rfl rfl (y_fieldAddr rfl fo29_0) ?_
    refine rw_p rfl rfl (y_load rfl sc3 (hm.nt 0 rfl) rfl) ?_
    refine rw_p rfl rfl (y_fieldAddr rfl fo29_1) ?_
    refine rw_p rfl rfl (y_load rfl sc3 (hm.nt 0 rfl) rfl) ?_
    refine rw_p rfl rfl (y_mul rfl rfl (prodW (rightB hrt))) ?_
    refine rw_p rfl rfl (y_as (c := true) (y_gt rfl rfl) (decide_eq_true (Int.lt_of_not_ge fun h => hno ⟨hrt, h⟩))) ?_
    refine rw_p rfl rfl (y_pickF rfl rfl) ?_
    refine rw_done ?_
    refine gn_sq ?_
    refine HW_condT rfl rfl rfl ?_
    refine HW_seq rfl ?_
    refine HW_text (.pure 0 (.pure 1 .done)) (by kernel_rfl) ?_
    refine rw_p rfl rfl (y_assign rfl) ?_
    refine rw_p rfl rfl (y_assign rfl) ?_
    refine rw_done ?_
    refine gn_sq ?_
    refine HW_ret rfl ?_
    refine gr_sq ?_
    refine toR (fin hret rfl (.tmp rfl (.tmp rfl .nil)) .more ?_)
    exact ⟨rfl, hm.to⟩

theorem f_writeX (D : Pl.Dv) (m : Nat) (Z : List (Nat × Blk)) (w0 : World) (hZ : OwnZ w0 Z) (hz : DevZ 79 83 5 D m Z) (a : Int) (q : Option Addr) (cq : Nat) (ps : List SB) (BB : List UInt8) (ha : Pl.I64 a) (hon : Pl.onD D a (BB.length : Int) = false) (hq : Rd w0 q (ps.flatMap encS)) (hps : ∀ s ∈ ps, Rd w0 s.p (s.bs.flatMap encB)) (hl : ps.length ≤ 4611686018427387903) (hBB : ps.flatMap (·.bs) = BB) (hb : BB.length ≤ 140737488355328) : C Try.prog 20 [.pointer (some ⟨m, 0, none⟩), .int .i64 a, .slice q ps.length cq] w0 fun v w' => v = .int .i64 2 ∧ Mem w0 w' (Mn (reals Z)) Z := by
  refine C_ofM Try.func20 rfl rfl rfl fun κ hret hnorm => ?_
  have hm := Mem.start w0
  refine HW_seq rfl ?_
  refine HW_text (.act 0 (.act 1 (.act 2 .done))) (by kernel_rfl) ?_
  refine a_box rfl rfl rfl rfl hm trivial fun m1 w hg_m1 hm hh => ?_
  refine a_box rfl rfl rfl rfl hm trivial fun m2 w hg_m2 hm hh => ?_
  refine a_alloc rfl rfl z36 hm trivial fun m3 w hg_m3 hm hh => ?_
  refine rw_done ?_
  refine gn_sq ?_
  refine HW_seq rfl ?_
  refine HW_text (.pure 0 (.act 1 (.act 2 (.act 3 .done)))) (by kernel_rfl) ?_
  refine rw_p rfl rfl (y_move rfl) ?_
  refine a_call rfl rfl rfl go44 (concat_b q cq ps _ (hq.ext0 hm.to) (fun s hs => (hps s hs).ext0 hm.to) hl (by rw [hBB]; exact hb)) fun v w hR => ?_
  obtain ⟨p_s, n_s, cap_s, g_s, b_s, rfl, ha_s, hmc⟩ := hR
  refine ⟨trivial, ?_⟩
  have hns := ha_s.lenB
  replace hm := hm.callN hmc
  rw [hBB] at ha_s hns
  refine a_alloc rfl rfl z27 hm trivial fun m4 w hg_m4 hm hh => ?_
  refine a_store rfl rfl rfl rfl sz27 rfl hm 0 rfl rfl fun w hm => ?_
  refine rw_done ?_
  refine gn_sq ?_
  refine HW_seq rfl ?_
  refine HW_text (.pure 0 (.pure 1 (.pure 2 (.pure 3 (.act 4 (.act 5 .done)))))) (by kernel_rfl) ?_
  refine rw_p rfl rfl (y_load rfl sc3 (hm.nt 3 rfl) rfl) ?_
  refine rw_p rfl rfl (y_load rfl sc27 (hm.nt 0 rfl) rfl) ?_
  refine rw_p rfl rfl (y_len rfl rfl sl27) ?_
  refine rw_p rfl rfl (y_v (y_build (cs := [_, _]) z23 ft23 rfl rfl rfl rfl rfl) (show _ = Value.agg ⟨[.int .i64 a, .int .i64 (BB.length : Int)]⟩ by rw [hns])) ?_
  refine a_alloc rfl rfl z23 hm trivial fun m5 w hg_m5 hm hh => ?_
  refine a_store rfl rfl rfl rfl sz23 rfl hm 0 rfl rfl fun w hm => ?_
  refine rw_done ?_
  refine gn_sq ?_
  refine HW_seq rfl ?_
  refine HW_seq rfl ?_
  refine HW_text (.pure 0 (.pure 1 (.act 2 (.pure 3 .done)))) (by kernel_rfl) ?_
  refine rw_p rfl rfl (y_load rfl sc30 (hm.nt 5 rfl) rfl) ?_
  refine rw_p rfl rfl (y_loadA (s := 2) (vs := [_, _]) rfl ag23 (hm.nt 0 rfl) rfl) ?_
  refine a_call rfl rfl rfl go39 (C.as (v := .int .i64 2) (f_check D m Z _ (hZ.ext hm.to) hz a (BB.length : Int) ha (by simp only [Pl.I64]; omega)) (by rw [hon]; rfl)) fun v w hR => ?_
  obtain ⟨rfl, hE⟩ := hR
  refine ⟨trivial, ?_⟩
  replace hm := hm.ext hE
  refine rw_p rfl rfl (y_assign rfl) ?_
  refine rw_done ?_
  refine gn_sq ?_
  refine HW_seq rfl ?_
  refine HW_text (.pure 0 (.pure 1 .done)) (by kernel_rfl) ?_
  refine rw_p rfl rfl (y_move rfl) ?_
  refine rw_p rfl rfl (y_as (c := true) (y_ne rfl rfl) (by decide)) ?_
  refine rw_done ?_
  refine gn_sq ?_
  refine HW_condT rfl rfl rfl ?_
  refine HW_seq rfl ?_
  refine HW_text (.pure 0 (.act 1 .done)) (by kernel_rfl) ?_
  refine rw_p rfl rfl (y_move rfl) ?_
  refine a_store rfl rfl rfl rfl sz36 rfl hm 3 rfl rfl fun w hm => ?_
  refine rw_done ?_
  refine gn_sq ?_
  refine HW_ret rfl ?_
  refine gr_sq ?_
  refine toR (fin0 hret rfl (.cell rfl (run_loadVar_s sc36 (hm.get (k := 3) rfl) rfl) .nil) .one ?_)
  exact ⟨rfl, Mem.withZ (A := []) (hm.drop (List.nil_sublist _)) hZ⟩

theorem f_writeN (a : Int) (q : Option Addr) (cq : Nat) (ps : List SB) (BB : List UInt8) (w0 : World) (hq : Rd w0 q (ps.flatMap encS)) (hps : ∀ s ∈ ps, Rd w0 s.p (s.bs.flatMap encB)) (hl : ps.length ≤ 4611686018427387903) (hBB : ps.flatMap (·.bs) = BB) (hb : BB.length ≤ 140737488355328) : C Try.prog 20 [.pointer none, .int .i64 a, .slice q ps.length cq] w0 fun v w' => v = .int .i64 1 ∧ Ext No w0 w' := by
  refine C_ofM Try.func20 rfl rfl rfl fun κ hret hnorm => ?_
  have hm := Mem.start w0
  refine HW_seq rfl ?_
  refine HW_text (.act 0 (.act 1 (.act 2 .done))) (by kernel_rfl) ?_
  refine a_box rfl rfl rfl rfl hm trivial fun m1 w hg_m1 hm hh => ?_
  refine a_box rfl rfl rfl rfl hm trivial fun m2 w hg_m2 hm hh => ?_
  refine a_alloc rfl rfl z36 hm trivial fun m3 w hg_m3 hm hh => ?_
  refine rw_done ?_
  refine gn_sq ?_
  refine HW_seq rfl ?_
  refine HW_text (.pure 0 (.act 1 (.act 2 (.act 3 .done)))) (by kernel_rfl) ?_
  refine rw_p rfl rfl (y_move rfl) ?_
  refine a_call rfl rfl rfl go44 (concat_b q cq ps _ (hq.ext0 hm.to) (fun s hs => (hps s hs).ext0 hm.to) hl (by rw [hBB]; exact hb)) fun v w hR => ?_
  obtain ⟨p_s, n_s, cap_s, g_s, b_s, rfl, ha_s, hmc⟩ := hR
  refine ⟨trivial, ?_⟩
  have hns := ha_s.lenB
  replace hm := hm.callN hmc
  rw [hBB] at ha_s hns
  refine a_alloc rfl rfl z27 hm trivial fun m4 w hg_m4 hm hh => ?_
  refine a_store rfl rfl rfl rfl sz27 rfl hm 0 rfl rfl fun w hm => ?_
  refine rw_done ?_
  refine gn_sq ?_
  refine HW_seq rfl ?_
  refine HW_text (.pure 0 (.pure 1 (.pure 2 (.pure 3 (.act 4 (.act 5 .done)))))) (by kernel_rfl) ?_
  refine rw_p rfl rfl (y_load rfl sc3 (hm.nt 3 rfl) rfl) ?_
  refine rw_p rfl rfl (y_load rfl sc27 (hm.nt 0 rfl) rfl) ?_
  refine rw_p rfl rfl (y_len rfl rfl sl27) ?_
  refine rw_p rfl rfl (y_build (cs := [_, _]) z23 ft23 rfl rfl rfl rfl rfl) ?_
  refine a_alloc rfl rfl z23 hm trivial fun m5 w hg_m5 hm hh => ?_
  refine a_store rfl rfl rfl rfl sz23 rfl hm 0 rfl rfl fun w hm => ?_
  refine rw_done ?_
  refine gn_sq ?_
  refine HW_seq rfl ?_
  refine HW_seq rfl ?_
  refine HW_text (.pure 0 (.pure 1 (.act 2 (.pure 3 .done)))) (by kernel_rfl) ?_
  refine rw_p rfl rfl (y_load rfl sc30 (hm.nt 5 rfl) rfl) ?_
  refine rw_p rfl rfl (y_loadA (s := 2) (vs := [_, _]) rfl ag23 (hm.nt 0 rfl) rfl) ?_
  refine a_call rfl rfl rfl go39 (f_checkN _ _) fun v w hR => ?_
  obtain ⟨rfl, hE⟩ := hR
  refine ⟨trivial, ?_⟩
  replace hm := hm.ext hE
  refine rw_p rfl rfl (y_assign rfl) ?_
  refine rw_done ?_
  refine gn_sq ?_
  refine HW_seq rfl ?_
  refine HW_text (.pure 0 (.pure 1 .done)) (by kernel_rfl) ?_
  refine rw_p rfl rfl (y_move rfl) ?_
  refine rw_p rfl rfl (y_as (c := true) (y_ne rfl rfl) (by decide)) ?_
  refine rw_done ?_
  refine gn_sq ?_
  refine HW_condT rfl rfl rfl ?_
  refine HW_seq rfl ?_
  refine HW_text (.pure 0 (.act 1 .done)) (by kernel_rfl) ?_
  refine rw_p rfl rfl (y_move rfl) ?_
  refine a_store rfl rfl rfl rfl sz36 rfl hm 3 rfl rfl fun w hm => ?_
  refine rw_done ?_
  refine gn_sq ?_
  refine HW_ret rfl ?_
  refine gr_sq ?_
  refine toR (fin0 hret rfl (.cell rfl (run_loadVar_s sc36 (hm.get (k := 3) rfl) rfl) .nil) .one ?_)
  exact ⟨rfl, hm.to⟩

set_option maxRecDepth 100000 in
theorem al_facts : (Pl.wrS 3 ([97, 98, 99, 100, 101, 102] : List UInt8) (Pl.sN (Pl.nDv 4 3 []).sz 3 ([97, 98, 99, 100, 101, 102] : List UInt8).length) (Pl.sF (Pl.nDv 4 3 []).sz 3 ([97, 98, 99, 100, 101, 102] : List UInt8).length) (Pl.nDv 4 3 [])).1 = 0 ∧ (Pl.wrS 3 ([97, 98, 99, 100, 101, 102] : List UInt8) (Pl.sN (Pl.nDv 4 3 []).sz 3 ([97, 98, 99, 100, 101, 102] : List UInt8).length) (Pl.sF (Pl.nDv 4 3 []).sz 3 ([97, 98, 99, 100, 101, 102] : List UInt8).length) (Pl.nDv 4 3 [])).2.sW = 3 ∧ Pl.rdB (Pl.wrS 3 ([97, 98, 99, 100, 101, 102] : List UInt8) (Pl.sN (Pl.nDv 4 3 []).sz 3 ([97, 98, 99, 100, 101, 102] : List UInt8).length) (Pl.sF (Pl.nDv 4 3 []).sz 3 ([97, 98, 99, 100, 101, 102] : List UInt8).length) (Pl.nDv 4 3 [])).2 2 8 = [0, 97, 98, 99, 100, 101, 102, 0] ∧ Pl.rdCode (Pl.wrS 3 ([97, 98, 99, 100, 101, 102] : List UInt8) (Pl.sN (Pl.nDv 4 3 []).sz 3 ([97, 98, 99, 100, 101, 102] : List UInt8).length) (Pl.sF (Pl.nDv 4 3 []).sz 3 ([97, 98, 99, 100, 101, 102] : List UInt8).length) (Pl.nDv 4 3 [])).2 2 8 = 0 := by decide +kernel

set_option maxHeartbeats 1600000 in
theorem law_alive (w0 : World) : C Try.prog 8 [] w0 fun v w' => v = .bool true ∧ Ext No w0 w' := by
  refine C_of Try.func8 rfl rfl rfl fun κ hret hnorm => ?_
  have hm := Mem.start w0
  refine HW_seq rfl ?_
  refine HW_text (.pure 0 .done) (by kernel_rfl) ?_
  refine rw_p rfl rfl (y_assign rfl) ?_
  refine rw_done ?_
  refine gn_sq ?_
  refine HW_seq rfl ?_
  refine HW_text (.act 0 (.pure 1 .done)) (by kernel_rfl) ?_
  refine a_call rfl rfl rfl go28 (o_newN 4 3 none 0 [] _ rfl (fun _ h => nomatch h) (by decide) (by decide) [] rfl (by decide)) fun v w hR => ?_
  obtain ⟨m, Z, rfl, hz, hmc⟩ := hR
  refine ⟨trivial, ?_⟩
  replace hm := hm.callTZ hmc
  refine rw_p rfl rfl (y_assign rfl) ?_
  refine rw_done ?_
  refine gn_sq ?_
  refine HW_seq rfl ?_
  refine HW_seq rfl ?_
  refine HW_text (.pure 0 (.pure 1 .done)) (by kernel_rfl) ?_
  refine rw_p rfl rfl (y_move rfl) ?_
  refine rw_p rfl rfl (y_pnil rfl rfl pb30) ?_
  refine rw_done ?_
  refine gn_sq ?_
  refine HW_condF rfl rfl rfl ?_
  refine HW_skip rfl ?_
  refine gn_sq ?_
  refine HW_seq rfl ?_
  refine HW_text (.pure 0 (.act 1 (.act 2 (.act 3 (.act 4 (.act 5 (.act 6 (.pure 7 .done)))))))) (by kernel_rfl) ?_
  refine rw_p rfl rfl (y_move rfl) ?_
  refine a_buildSlice (l := [_, _, _]) rfl rfl sl27 z5 rfl rfl rfl rfl rfl rfl rfl hm trivial fun m1 w hg_m1 hm hh => ?_
  refine a_mkd rfl rfl rfl cb27 hm 0 rfl fun w hm => ?_
  refine a_buildSlice (l := [_, _, _]) rfl rfl sl27 z5 rfl rfl rfl rfl rfl rfl rfl hm trivial fun m2 w hg_m2 hm hh => ?_
  refine a_mkd rfl rfl rfl cb27 hm 0 rfl fun w hm => ?_
  refine a_buildSlice (l := [_, _]) rfl rfl sl96 z27 rfl rfl rfl rfl rfl rfl rfl hm trivial fun m3 w hg_m3 hm hh => ?_
  refine a_call rfl rfl rfl go20 (f_write (Pl.nDv 4 3 []) m Z 3 _ 2 [⟨_, 3, [97, 98, 99]⟩, ⟨_, 3, [100, 101, 102]⟩] [97, 98, 99, 100, 101, 102] _ (OwnZ.right (A := [_, _, _]) hm.ownZ) hz (by decide) (Rd.row0 (hm.get (k := 0) rfl)) (fun s hs => (List.mem_cons.1 hs).elim (fun e => by rw [e]; exact Rd.mkd (hm.get (k := 2) rfl)) fun h => by rw [List.mem_singleton.1 h]; exact Rd.mkd (hm.get (k := 1) rfl)) (by simp) rfl (by decide) (by decide)) fun v w hR => ?_
  obtain ⟨rfl, Z2, hz2, hmc⟩ := hR
  refine ⟨trivial, ?_⟩
  replace hm := Mem.callZL (A := [_, _, _]) hm hmc
  obtain ⟨f1, f2, f3, f4⟩ := al_facts
  obtain ⟨R9, hR9⟩ : ∃ R9, (Pl.wrS 3 ([97, 98, 99, 100, 101, 102] : List UInt8) (Pl.sN (Pl.nDv 4 3 []).sz 3 ([97, 98, 99, 100, 101, 102] : List UInt8).length) (Pl.sF (Pl.nDv 4 3 []).sz 3 ([97, 98, 99, 100, 101, 102] : List UInt8).length) (Pl.nDv 4 3 [])) = R9 := ⟨_, rfl⟩
  rw [hR9] at hz2 f1 f2 f3 f4 ⊢
  obtain ⟨c9, D1⟩ := R9
  simp only at hz2 f1 f2 f3 f4 ⊢
  subst f1
  refine rw_p rfl rfl (y_assign rfl) ?_
  refine rw_done ?_
  refine gn_sq ?_
  refine HW_seq rfl ?_
  refine HW_text (.pure 0 (.pure 1 (.act 2 (.pure 3 (.pure 4 (.pure 5 (.pure 6 (.pure 7 .done)))))))) (by kernel_rfl) ?_
  refine rw_p rfl rfl (y_move rfl) ?_
  refine rw_p rfl rfl (y_build (cs := [_, _]) z23 ft23 rfl rfl rfl rfl rfl) ?_
  refine a_call rfl rfl rfl go16 (f_readA D1 m Z2 _ (OwnZ.right (A := [_, _, _]) hm.ownZ) hz2 2 8 (by decide) (by decide)) fun v w hR => ?_
  obtain ⟨p_s, cap_s, g_s, b_s, rfl, ha_s, hmc⟩ := hR
  refine ⟨trivial, ?_⟩
  have hg_s : b_s.real = true → _ := fun hr => (hmc.fresh _ List.mem_cons_self hr).resolve_left id
  replace hm := hm.callN hmc
  rw [f3] at ha_s ⊢
  rw [f4]
  refine rw_p rfl rfl (y_move rfl) ?_
  refine rw_p rfl rfl (y_extract rfl rfl) ?_
  refine rw_p rfl rfl (y_extract rfl rfl) ?_
  refine rw_p rfl rfl (y_assign rfl) ?_
  refine rw_p rfl rfl (y_assign rfl) ?_
  refine rw_done ?_
  refine gn_sq ?_
  refine HW_seq rfl ?_
  refine HW_text (.pure 0 (.pure 1 (.pure 2 (.pure 3 (.pure 4 (.pure 5 (.pure 6 (.pure 7 (.pure 8 (.pure 9 (.pure 10 (.pure 11 (.pure 12 (.act 13 (.pure 14 (.pure 15 (.pure 16 (.pure 17 (.pure 18 (.act 19 (.pure 20 (.pure 21 (.pure 22 (.pure 23 .done)))))))))))))))))))))))) (by kernel_rfl) ?_
  refine rw_p rfl rfl (y_move rfl) ?_
  refine rw_p rfl rfl (y_as (c := true) (y_eq rfl rfl) (by decide)) ?_
  refine rw_p rfl rfl (y_move rfl) ?_
  refine rw_p rfl rfl (y_move rfl) ?_
  refine rw_p rfl rfl (y_as (c := true) (y_eq rfl rfl) (by decide)) ?_
  refine rw_p rfl rfl (y_pickT rfl rfl) ?_
  refine rw_p rfl rfl (y_move rfl) ?_
  refine rw_p rfl rfl (y_move rfl) ?_
  refine rw_p rfl rfl (y_cvs rfl bt27_9 ((ha_s.rd hm 0 rfl).nt) ha_s.lenB) ?_
  refine rw_p rfl rfl (y_as (c := true) (y_seql rfl rfl) (beq_self_eq_true (bstr [0, 97, 98, 99, 100, 101, 102, 0]).toList)) ?_
  refine rw_p rfl rfl (y_pickT rfl rfl) ?_
  refine rw_p rfl rfl (y_move rfl) ?_
  refine rw_p rfl rfl (y_move rfl) ?_
  refine a_call rfl rfl rfl go22 (o_stats D1 m Z2 _ (OwnZ.right (A := [_, _, _, _]) hm.ownZ) hz2) fun v w hR => ?_
  obtain ⟨rfl, hE⟩ := hR
  refine ⟨trivial, ?_⟩
  replace hm := hm.ext hE
  refine rw_p rfl rfl (y_fieldV rfl fv55_0 rfl) ?_
  refine rw_p rfl rfl (y_as (c := true) (y_eq rfl rfl) (decide_eq_true f2)) ?_
  refine rw_p rfl rfl (y_pickT rfl rfl) ?_
  refine rw_p rfl rfl (y_move rfl) ?_
  refine rw_p rfl rfl (y_build (cs := [_, _]) z23 ft23 rfl rfl rfl rfl rfl) ?_
  refine a_call rfl rfl rfl go9 (f_secs _ _ _ _ (by omega) (by omega) (by omega)) fun v w hR => ?_
  obtain ⟨rfl, hE⟩ := hR
  refine ⟨trivial, ?_⟩
  replace hm := hm.ext hE
  refine rw_p rfl rfl (y_build (cs := [_, _]) z23 ft23 rfl rfl rfl rfl rfl) ?_
  refine rw_p rfl rfl (y_as (c := true) (y_eq2 rfl rfl iii23) (by decide +kernel)) ?_
  refine rw_p rfl rfl (y_pickT rfl rfl) ?_
  refine rw_p rfl rfl (y_assign rfl) ?_
  refine rw_done ?_
  refine gn_sq ?_
  refine HW_ret rfl ?_
  refine toR (fin hret rfl (.tmp rfl .nil) .one ?_)
  exact ⟨rfl, hm.to⟩

theorem law_sectors (s a b : Int) (w0 : World) (hs : Pl.I64 s) (ha : Pl.I64 a) (hb : Pl.I64 b) : C Try.prog 3 [.int .i64 s, .agg ⟨[.int .i64 a, .int .i64 b]⟩] w0 fun v w' => v = .bool true ∧ Ext No w0 w' := by
  simp only [Pl.I64] at hs ha hb
  refine C_of Try.func3 rfl rfl rfl fun κ hret hnorm => ?_
  have hm := Mem.start w0
  refine HW_seq rfl ?_
  refine HW_text (.act 0 (.pure 1 .done)) (by kernel_rfl) ?_
  refine a_box rfl rfl rfl rfl hm trivial fun m1 w hg_m1 hm hh => ?_
  refine rw_p rfl rfl (y_assign rfl) ?_
  refine rw_done ?_
  refine gn_sq ?_
  refine HW_seq rfl ?_
  refine HW_draw (.act 0 (.pure 1 (.pure 2 (.pure 3 (.pure 5 (.pure 6 (.act 4 (.cut (.act 7 (.pure 8 (.pure 9 (.pure 10 .done)))))))))))) No mix (by kernel_rfl) hm fun w hw hm0 hh => ?_
  have hm := hm0
  refine a_call rfl rfl rfl go8 (law_alive _) fun v w hR => ?_
  obtain ⟨rfl, hE⟩ := hR
  refine ⟨hh.ext hE, ?_⟩
  replace hm := hm.ext hE
  replace hh := hh.ext hE
  refine rw_p rfl rfl (y_move rfl) ?_
  refine rw_p rfl rfl (y_move rfl) ?_
  refine rw_p rfl rfl (y_loadA (s := 2) (vs := [_, _]) rfl ag23 (hm0.nd 0 rfl id) rfl) ?_
  refine rw_p rfl rfl (y_move rfl) ?_
  refine rw_p rfl rfl (y_loadA (s := 2) (vs := [_, _]) rfl ag23 (hm0.nd 0 rfl id) rfl) ?_
  refine a_call rfl rfl rfl go9 (f_secs _ _ _ _ (by omega) (by omega) (by omega)) fun v w hR => ?_
  obtain ⟨rfl, hE⟩ := hR
  refine ⟨hh.ext hE, ?_⟩
  replace hm := hm.ext hE
  replace hh := hh.ext hE
  refine a_cut ?_
  refine a_call rfl rfl rfl go10 (r20_secs _ _ _ _ (by omega) (by omega) (by omega)) fun v w hR => ?_
  obtain ⟨rfl, hE⟩ := hR
  refine ⟨trivial, ?_⟩
  replace hm := hm.ext hE
  refine rw_p rfl rfl (y_as (c := true) (y_eq2 rfl rfl iii23) (by simp)) ?_
  refine rw_p rfl rfl (y_pickT rfl rfl) ?_
  refine rw_p rfl rfl (y_assign rfl) ?_
  refine rw_done ?_
  refine gn_sq ?_
  refine HW_ret rfl ?_
  refine toR (fin hret rfl (.tmp rfl .nil) .one ?_)
  exact ⟨rfl, hm.to⟩

theorem rdB_len {D : Pl.Dv} (h : Pl.okDv D) (a b : Int) : (Pl.rdB D a b).length ≤ 1048576 := by
  have h1 := Pl.contents_len h
  have h2 := h.max
  unfold Pl.rdB
  split
  · rw [List.length_take, List.length_drop]; omega
  · exact Nat.zero_le _

theorem kp_rng (x : Int) : 0 ≤ IntKind.u64.wrap x ∧ IntKind.u64.wrap x ≤ 18446744073709551615 := by
  have h : IntKind.u64.wrap x = x % 18446744073709551616 := by simp [IntKind.wrap, IntKind.signed, IntKind.bits]
  rw [h]; omega

theorem f_writeA (D : Pl.Dv) (m : Nat) (Z : List (Nat × Blk)) (w0 : World) (hZ : OwnZ w0 Z) (hz : DevZ 79 83 5 D m Z) (a : Int) (q : Option Addr) (cq : Nat) (ps : List SB) (BB : List UInt8) (ha : Pl.I64 a) (hq : Rd w0 q (ps.flatMap encS)) (hps : ∀ s ∈ ps, Rd w0 s.p (s.bs.flatMap encB)) (hl : ps.length ≤ 4611686018427387903) (hBB : ps.flatMap (·.bs) = BB) (hb : BB.length ≤ 140737488355328) (hcl : D.ca.length + D.cnt ≤ 1000000000) : C Try.prog 20 [.pointer (some ⟨m, 0, none⟩), .int .i64 a, .slice q ps.length cq] w0 fun v w' => v = .int .i64 (Pl.wrAll D a BB).1 ∧ ∃ Z', DevZ 79 83 5 (Pl.wrAll D a BB).2 m Z' ∧ Mem w0 w' (Mn (reals Z)) Z' := by
  cases hon : Pl.onD D a (BB.length : Int) with
  | true =>
    have hv := Pl.onD_iff.1 hon
    obtain ⟨x, rfl⟩ : ∃ x : Nat, a = x := ⟨a.toNat, by omega⟩
    have he : Pl.wrAll D (x : Int) BB = (Pl.wrS x BB (Pl.sN D.sz x BB.length) (Pl.sF D.sz x BB.length) D) := by unfold Pl.wrAll; rw [if_neg (by simp [hon])]; rfl
    rw [he]
    exact f_write D m Z x q cq ps BB w0 hZ hz hon hq hps hl hBB hb hcl
  | false =>
    have he : Pl.wrAll D a BB = (2, D) := by unfold Pl.wrAll; rw [if_pos hon]
    rw [he]
    exact (f_writeX D m Z w0 hZ hz a q cq ps BB ha hon hq hps hl hBB hb).mono fun v w' h => ⟨h.1, Z, hz, h.2⟩

theorem r20_writeX (D : Pl.Dv) (m : Nat) (Z : List (Nat × Blk)) (w0 : World) (hZ : OwnZ w0 Z) (hz : RefZ 52 87 5 D m Z) (a : Int) (q : Option Addr) (cq : Nat) (BB : List UInt8) (ha : Pl.I64 a) (hb : BB.length ≤ 140737488355328) (hon : Pl.onD D a (BB.length : Int) = false) : C Try.prog 24 [.pointer (some ⟨m, 0, none⟩), .int .i64 a, .slice q BB.length cq] w0 fun v w' => v = .int .i64 2 ∧ Mem w0 w' (Mn (reals Z)) Z := by
  refine C_of Try.func24 rfl rfl rfl fun κ hret hnorm => ?_
  have hm := hZ.start
  refine HW_seq rfl ?_
  refine HW_text (.pure 0 .done) (by kernel_rfl) ?_
  refine rw_p rfl rfl (y_assign rfl) ?_
  refine rw_done ?_
  refine gn_sq ?_
  refine HW_seq rfl ?_
  refine HW_text (.pure 0 (.pure 1 (.pure 2 (.pure 3 (.act 4 (.act 5 .done)))))) (by kernel_rfl) ?_
  refine rw_p rfl rfl (y_move rfl) ?_
  refine rw_p rfl rfl (y_move rfl) ?_
  refine rw_p rfl rfl (y_len rfl rfl sl27) ?_
  refine rw_p rfl rfl (y_build (cs := [_, _]) z23 ft23 rfl rfl rfl rfl rfl) ?_
  refine a_alloc rfl rfl z23 hm trivial fun m1 w hg_m1 hm hh => ?_
  refine a_store rfl rfl rfl rfl sz23 rfl hm 0 rfl rfl fun w hm => ?_
  refine rw_done ?_
  refine gn_sq ?_
  refine HW_seq rfl ?_
  refine HW_seq rfl ?_
  refine HW_text (.pure 0 (.pure 1 (.act 2 (.pure 3 .done)))) (by kernel_rfl) ?_
  refine rw_p rfl rfl (y_move rfl) ?_
  refine rw_p rfl rfl (y_loadA (s := 2) (vs := [_, _]) rfl ag23 (hm.nt 0 rfl) rfl) ?_
  refine a_call rfl rfl rfl go19 (C.as (v := .bool false) (r20_on D m Z _ (OwnZ.right (A := [_]) hm.ownZ) hz a (BB.length : Int) ha (by simp only [Pl.I64]; omega)) (by rw [hon])) fun v w hR => ?_
  obtain ⟨rfl, hE⟩ := hR
  refine ⟨trivial, ?_⟩
  replace hm := hm.ext hE
  refine rw_p rfl rfl (y_not rfl) ?_
  refine rw_done ?_
  refine gn_sq ?_
  refine HW_condT rfl rfl rfl ?_
  refine HW_seq rfl ?_
  refine HW_text (.pure 0 .done) (by kernel_rfl) ?_
  refine rw_p rfl rfl (y_assign rfl) ?_
  refine rw_done ?_
  refine gn_sq ?_
  refine HW_ret rfl ?_
  refine gr_sq ?_
  refine toR (fin hret rfl (.tmp rfl .nil) .one ?_)
  exact ⟨rfl, (hm.pickT [] 1 rfl)⟩

theorem r20_writeA (D : Pl.Dv) (m : Nat) (Z : List (Nat × Blk)) (w0 : World) (hZ : OwnZ w0 Z) (hz : RefZ 52 87 5 D m Z) (a : Int) (q : Option Addr) (cq : Nat) (BB : List UInt8) (ha : Pl.I64 a) (hb : BB.length ≤ 140737488355328) (hq : Rd w0 q (BB.flatMap encB)) (hqX : BB.flatMap encB ≠ [] → ∀ ad, q = some ad → ¬ Mn (reals Z) ad.block) (hcl : D.ca.length + D.cnt ≤ 1000000000) : C Try.prog 24 [.pointer (some ⟨m, 0, none⟩), .int .i64 a, .slice q BB.length cq] w0 fun v w' => v = .int .i64 (Pl.wrAll D a BB).1 ∧ ∃ Z', RefZ 52 87 5 (Pl.wrAll D a BB).2 m Z' ∧ Mem w0 w' (Mn (reals Z)) Z' := by
  cases hon : Pl.onD D a (BB.length : Int) with
  | true =>
    have hv := Pl.onD_iff.1 hon
    obtain ⟨x, rfl⟩ : ∃ x : Nat, a = x := ⟨a.toNat, by omega⟩
    have he : Pl.wrAll D (x : Int) BB = (Pl.wrS x BB (Pl.sN D.sz x BB.length) (Pl.sF D.sz x BB.length) D) := by unfold Pl.wrAll; rw [if_neg (by simp [hon])]; rfl
    rw [he]
    exact r20_write D m Z w0 hZ hz x q cq BB hon hq hqX hcl
  | false =>
    have he : Pl.wrAll D a BB = (2, D) := by unfold Pl.wrAll; rw [if_pos hon]
    rw [he]
    exact (r20_writeX D m Z w0 hZ hz a q cq BB ha hb hon).mono fun v w' h => ⟨h.1, Z, hz, h.2⟩

end Go.Proofs.Ytkllojjpaelmhaa
