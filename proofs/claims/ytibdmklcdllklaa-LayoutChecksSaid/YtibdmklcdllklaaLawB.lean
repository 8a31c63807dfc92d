/- Contracts of functions of the program: what each returns. Conditions: the hypotheses of each theorem. -/
import Derived.Test.YtibdmklcdllklaaRfC
import Derived.Test.YtibdmklcdllklaaLaw
set_option linter.unusedVariables false
set_option linter.unusedSimpArgs false
namespace Go.Proofs.Ytibdmklcdllklaa
open Go Go.Cx

theorem fo28_0 : fldO Try.prog 28 0 = some 0 := by kernel_rfl
theorem go16 : isGo Try.prog 16 = true := by kernel_rfl
theorem go35 : isGo Try.prog 35 = true := by kernel_rfl
theorem go15 : isGo Try.prog 15 = true := by kernel_rfl
theorem go19 : isGo Try.prog 19 = true := by kernel_rfl
theorem z46 : zer Try.prog 46 = some [.slice none 0 0] := by kernel_rfl
theorem fo32_2 : fldO Try.prog 32 2 = some 2 := by kernel_rfl
theorem fo32_0 : fldO Try.prog 32 0 = some 0 := by kernel_rfl
theorem go33 : isGo Try.prog 33 = true := by kernel_rfl
theorem go34 : isGo Try.prog 34 = true := by kernel_rfl

theorem r19_right (x y n : Int) (w0 : World) (hn : Pl.I64 n) : C Try.prog 33 [.int .i64 x, .int .i64 y, .int .i64 n] w0 fun v w' => v = .bool (Pl.right x y n) ∧ Ext No w0 w' := by
  refine C_of Try.func33 rfl rfl rfl fun κ hret hnorm => ?_
  have hm := Mem.start w0
  refine HW_seq rfl ?_
  refine HW_text (.pure 0 .done) (by kernel_rfl) ?_
  refine rw_p rfl rfl (y_assign rfl) ?_
  refine rw_done ?_
  refine gn_sq ?_
  refine HW_seq rfl ?_
  refine HW_text (.pure 0 (.pure 1 (.pure 2 (.pure 3 (.pure 4 (.pure 5 (.pure 6 (.pure 7 (.pure 8 (.pure 9 (.pure 10 (.pure 11 (.pure 12 (.pure 13 (.pure 14 (.pure 15 (.pure 16 (.pure 17 (.pure 18 (.pure 19 (.pure 20 (.pure 21 (.pure 22 (.pure 23 (.pure 24 (.pure 25 (.pure 26 (.pure 27 .done)))))))))))))))))))))))))))) (by kernel_rfl) ?_
  refine rw_p rfl rfl (y_move rfl) ?_
  refine rw_p rfl rfl (y_ge rfl rfl) ?_
  refine rw_p rfl rfl (y_move rfl) ?_
  refine rw_g rfl rfl rfl (fun hc => (y_move rfl)) ?_
  refine rw_g rfl rfl rfl (fun hc => (y_ge (gx hc rfl) rfl)) ?_
  refine rw_p rfl rfl (y_and rfl rfl rfl) ?_
  refine rw_p rfl rfl (y_move rfl) ?_
  refine rw_g rfl rfl rfl (fun hc => (y_move rfl)) ?_
  refine rw_g rfl rfl rfl (fun hc => (y_le (gx hc rfl) rfl)) ?_
  refine rw_p rfl rfl (y_and rfl rfl rfl) ?_
  refine rw_p rfl rfl (y_move rfl) ?_
  refine rw_g rfl rfl rfl (fun hc => (y_move rfl)) ?_
  refine rw_g rfl rfl rfl (fun hc => (y_le (gx hc rfl) rfl)) ?_
  refine rw_p rfl rfl (y_and rfl rfl rfl) ?_
  refine rw_p rfl rfl (y_move rfl) ?_
  refine rw_g rfl rfl rfl (fun hc => (y_move rfl)) ?_
  refine rw_g rfl rfl rfl (fun hc => (y_move rfl)) ?_
  refine rw_g rfl rfl rfl (fun hc => (y_mul (gx hc rfl) (gx hc rfl) (prodW (by simp at hc; omega)))) ?_
  refine rw_g rfl rfl rfl (fun hc => (y_le (gx hc rfl) rfl)) ?_
  refine rw_p rfl rfl (y_and rfl rfl rfl) ?_
  refine rw_p rfl rfl (y_move rfl) ?_
  refine rw_g rfl rfl rfl (fun hc => (y_move rfl)) ?_
  refine rw_g rfl rfl rfl (fun hc => (y_move rfl)) ?_
  refine rw_g rfl rfl rfl (fun hc => (y_move rfl)) ?_
  refine rw_g rfl rfl rfl (fun hc => (y_mul (gx hc rfl) (gx hc rfl) (prodW (by simp at hc; omega)))) ?_
  refine rw_g rfl rfl rfl (fun hc => (y_le (gx hc rfl) (gx hc rfl))) ?_
  refine rw_p rfl rfl (y_and rfl rfl rfl) ?_
  refine rw_p rfl rfl (y_assign rfl) ?_
  refine rw_done ?_
  refine gn_sq ?_
  refine HW_ret rfl ?_
  refine toR (fin hret rfl (.tmp rfl .nil) .one ?_)
  exact ⟨congrArg Value.bool (right_b x y n), hm.to⟩

theorem o_newN (a c : Nat) (q : Option Addr) (cq : Nat) (ps : List SB) (w0 : World) (hq : Rd w0 q (ps.flatMap encS)) (hps : ∀ s ∈ ps, Rd w0 s.p (s.bs.flatMap encB)) (hl : ps.length ≤ 4611686018427387903) (hb : (ps.flatMap (·.bs)).length ≤ 140737488355328) (BB : List UInt8) (hBB : ps.flatMap (·.bs) = BB) (hr : Pl.right a c BB.length = true) : C Try.prog 19 [.int .i64 (a : Int), .int .i64 (c : Int), .slice q ps.length cq] w0 fun v w' => ∃ m Z, v = .pointer (some ⟨m, 0, none⟩) ∧ DevZ 87 133 5 (Pl.nDv a c BB) m Z ∧ Mem w0 w' No Z := o_new a c q cq ps w0 hq hps hl hb BB hBB hr

theorem prep3 (s k fl xt : Int) (n : Nat) (hI : Pl.I64 xt) (hk : 0 ≤ k) (hk2 : k ≤ 4611686018427519064) : (xt < 0 ∨ fl < (n : Int)) ∨ ((0 ≤ xt ∧ (n : Int) ≤ fl ∧ Pl.right s (IntKind.i64.wrap (k + xt)) n = false) ∨ (0 ≤ xt ∧ (n : Int) ≤ fl ∧ xt ≤ 1048576 ∧ ∃ a c : Nat, s = a ∧ k + xt = c ∧ Pl.right a c n = true)) := by
  by_cases hA : xt < 0 ∨ fl < (n : Int)
  · exact .inl hA
  cases hR : Pl.right s (IntKind.i64.wrap (k + xt)) n with
  | false => exact .inr (.inl ⟨by omega, by omega, rfl⟩)
  | true =>
    obtain ⟨h1, h2, h3, h4⟩ := rightB hR
    simp only [Pl.I64] at hI
    by_cases hw : k + xt ≤ 9223372036854775807
    · have e : IntKind.i64.wrap (k + xt) = k + xt := i64w (by omega) hw
      rw [e] at hR h2 h4
      refine .inr (.inr ⟨by omega, by omega, by omega, s.toNat, (k + xt).toNat, by omega, by omega, ?_⟩)
      rw [show ((s.toNat : Nat) : Int) = s by omega, show (((k + xt).toNat : Nat) : Int) = k + xt by omega]
      exact hR
    · exfalso
      have e : IntKind.i64.wrap (k + xt) = if (k + xt) % 18446744073709551616 ≥ 9223372036854775808 then (k + xt) % 18446744073709551616 - 18446744073709551616 else (k + xt) % 18446744073709551616 := by simp [IntKind.wrap, IntKind.signed, IntKind.bits]
      rw [e] at h2
      split at h2 <;> omega

theorem y_prepA (s : Int) (x2 x3 fl x5 x6 k x : Int) (q : Option Addr) (cq : Nat) (ps : List SB) (BB : List UInt8) (w0 : World) (hq : Rd w0 q (ps.flatMap encS)) (hps : ∀ s ∈ ps, Rd w0 s.p (s.bs.flatMap encB)) (hl : ps.length ≤ 4611686018427387903) (hBB : ps.flatMap (·.bs) = BB) (hb : BB.length ≤ 140737488355328) (hbad : x < 0 ∨ fl < (BB.length : Int)) : C Try.prog 13 [.agg ⟨[.int .i64 s, .int .i64 x2, .int .i64 x3, .int .i64 fl, .int .i64 x5, .int .i64 x6, .int .i64 k]⟩, .int .i64 x, .slice q ps.length cq] w0 fun v w' => v = .tuple ⟨[.pointer none, .int .i64 2]⟩ ∧ Ext No w0 w' := by
  refine C_of Try.func13 rfl rfl rfl fun κ hret hnorm => ?_
  have hm := Mem.start w0
  refine HW_seq rfl ?_
  refine HW_text (.act 0 (.pure 1 (.pure 2 .done))) (by kernel_rfl) ?_
  refine a_box rfl rfl rfl rfl hm trivial fun m1 w hg_m1 hm hh => ?_
  refine rw_p rfl rfl (y_assign rfl) ?_
  refine rw_p rfl rfl (y_assign rfl) ?_
  refine rw_done ?_
  refine gn_sq ?_
  refine HW_seq rfl ?_
  refine HW_text (.pure 0 (.act 1 (.pure 2 .done))) (by kernel_rfl) ?_
  refine rw_p rfl rfl (y_move rfl) ?_
  refine a_call rfl rfl rfl go32 (concat_b q cq ps _ (hq.ext0 hm.to) (fun s hs => (hps s hs).ext0 hm.to) hl (by rw [hBB]; exact hb)) fun v w hR => ?_
  obtain ⟨p_s, n_s, cap_s, g_s, b_s, rfl, ha_s, hmc⟩ := hR
  refine ⟨trivial, ?_⟩
  have hns := ha_s.lenB
  replace hm := hm.callN hmc
  rw [hBB] at ha_s hns
  subst hns
  refine rw_p rfl rfl (y_assign rfl) ?_
  refine rw_done ?_
  refine gn_sq ?_
  refine HW_seq rfl ?_
  refine HW_seq rfl ?_
  by_cases hx0 : x < 0
  ·
    refine HW_text (.pure 0 (.pure 1 (.pure 2 (.pure 3 (.pure 4 (.pure 5 (.pure 6 (.pure 7 (.pure 8 (.pure 9 .done)))))))))) (by kernel_rfl) ?_
    refine rw_p rfl rfl (y_move rfl) ?_
    refine rw_p rfl rfl (y_as (c := true) (y_lt rfl rfl) (decide_eq_true (by omega))) ?_
    refine rw_p rfl rfl (y_move rfl) ?_
    refine rw_gf rfl rfl (by decide) rfl ?_
    refine rw_gf rfl rfl (by decide) rfl ?_
    refine rw_gf rfl rfl (by decide) rfl ?_
    refine rw_gf rfl rfl (by decide) rfl ?_
    refine rw_gf rfl rfl (by decide) rfl ?_
    refine rw_gf rfl rfl (by decide) rfl ?_
    refine rw_p rfl rfl (y_pickT rfl rfl) ?_
    refine rw_done ?_
    refine gn_sq ?_
    refine HW_condT rfl rfl rfl ?_
    refine HW_seq rfl ?_
    refine HW_text (.pure 0 (.pure 1 .done)) (by kernel_rfl) ?_
    refine rw_p rfl rfl (y_assign rfl) ?_
    refine rw_p rfl rfl (y_assign rfl) ?_
    refine rw_done ?_
    refine gn_sq ?_
    refine HW_ret rfl ?_
    refine gr_sq ?_
    refine toR (fin hret rfl (.tmp rfl (.tmp rfl .nil)) .more ?_)
    exact ⟨rfl, hm.to⟩
  ·
    refine HW_text (.pure 0 (.pure 1 (.pure 2 (.pure 3 (.pure 4 (.pure 5 (.pure 6 (.pure 7 (.pure 8 (.pure 9 .done)))))))))) (by kernel_rfl) ?_
    refine rw_p rfl rfl (y_move rfl) ?_
    refine rw_p rfl rfl (y_as (c := false) (y_lt rfl rfl) (decide_eq_false (by omega))) ?_
    refine rw_p rfl rfl (y_move rfl) ?_
    refine rw_p rfl rfl (y_move rfl) ?_
    refine rw_p rfl rfl (y_len rfl rfl sl46) ?_
    refine rw_p rfl rfl (y_fieldAddr rfl fo28_2) ?_
    refine rw_p rfl rfl (y_fieldAddr rfl fo26_1) ?_
    refine rw_p rfl rfl (y_load rfl sc3 (hm.nt 1 rfl) rfl) ?_
    refine rw_p rfl rfl (y_as (c := true) (y_gt rfl rfl) (decide_eq_true (by omega))) ?_
    refine rw_p rfl rfl (y_pickF rfl rfl) ?_
    refine rw_done ?_
    refine gn_sq ?_
    refine HW_condT rfl rfl rfl ?_
    refine HW_seq rfl ?_
    refine HW_text (.pure 0 (.pure 1 .done)) (by kernel_rfl) ?_
    refine rw_p rfl rfl (y_assign rfl) ?_
    refine rw_p rfl rfl (y_assign rfl) ?_
    refine rw_done ?_
    refine gn_sq ?_
    refine HW_ret rfl ?_
    refine gr_sq ?_
    refine toR (fin hret rfl (.tmp rfl (.tmp rfl .nil)) .more ?_)
    exact ⟨rfl, hm.to⟩

theorem y_checkN (s x2 x3 fl x5 x6 k : Int) (w0 : World) : C Try.prog 15 [.agg ⟨[.int .i64 s, .int .i64 x2, .int .i64 x3, .int .i64 fl, .int .i64 x5, .int .i64 x6, .int .i64 k]⟩, .pointer none] w0 fun v w' => v = .int .i64 1 ∧ Ext No w0 w' := by
  refine C_of Try.func15 rfl rfl rfl fun κ hret hnorm => ?_
  have hm := Mem.start w0
  refine HW_seq rfl ?_
  refine HW_text (.act 0 (.pure 1 .done)) (by kernel_rfl) ?_
  refine a_box rfl rfl rfl rfl hm trivial fun m1 w hg_m1 hm hh => ?_
  refine rw_p rfl rfl (y_assign rfl) ?_
  refine rw_done ?_
  refine gn_sq ?_
  refine HW_seq rfl ?_
  refine HW_block rfl ?_
  refine HW_seq rfl ?_
  refine HW_text (.pure 0 (.pure 1 (.pure 2 .done))) (by kernel_rfl) ?_
  refine rw_p rfl rfl (y_move rfl) ?_
  refine rw_p rfl rfl (y_pnil rfl rfl pb47) ?_
  refine rw_p rfl rfl (y_assign rfl) ?_
  refine rw_done ?_
  refine gn_sq ?_
  refine HW_condT rfl rfl rfl ?_
  refine HW_seq rfl ?_
  refine HW_text (.pure 0 .done) (by kernel_rfl) ?_
  refine rw_p rfl rfl (y_assign rfl) ?_
  refine rw_done ?_
  refine gn_sq ?_
  refine HW_ret rfl ?_
  refine gr_bl (gr_sq ?_)
  refine toR (fin hret rfl (.tmp rfl .nil) .one ?_)
  exact ⟨rfl, hm.to⟩

theorem y_check (D : Pl.Dv) (m : Nat) (Z : List (Nat × Blk)) (w0 : World) (hZ : OwnZ w0 Z) (hz : DevZ 87 133 5 D m Z) (x2 x3 fl x5 x6 k : Int) (hk : k ≤ (D.cnt : Int)) : C Try.prog 15 [.agg ⟨[.int .i64 (D.sz : Int), .int .i64 x2, .int .i64 x3, .int .i64 fl, .int .i64 x5, .int .i64 x6, .int .i64 k]⟩, .pointer (some ⟨m, 0, none⟩)] w0 fun v w' => v = .int .i64 0 ∧ Ext No w0 w' := by
  refine C_of Try.func15 rfl rfl rfl fun κ hret hnorm => ?_
  have hm := Mem.start w0
  refine HW_seq rfl ?_
  refine HW_text (.act 0 (.pure 1 .done)) (by kernel_rfl) ?_
  refine a_box rfl rfl rfl rfl hm trivial fun m1 w hg_m1 hm hh => ?_
  refine rw_p rfl rfl (y_assign rfl) ?_
  refine rw_done ?_
  refine gn_sq ?_
  refine HW_seq rfl ?_
  refine HW_block rfl ?_
  refine HW_seq rfl ?_
  refine HW_text (.pure 0 (.pure 1 (.pure 2 .done))) (by kernel_rfl) ?_
  refine rw_p rfl rfl (y_move rfl) ?_
  refine rw_p rfl rfl (y_pnil rfl rfl pb47) ?_
  refine rw_p rfl rfl (y_assign rfl) ?_
  refine rw_done ?_
  refine gn_sq ?_
  refine HW_condF rfl rfl rfl ?_
  refine HW_seq rfl ?_
  refine HW_draw (.pure 0 (.pure 2 (.pure 3 (.act 1 (.pure 4 (.pure 5 .done)))))) No mix (by kernel_rfl) hm fun w hw hm0 hh => ?_
  have hm := hm0
  refine rw_p rfl rfl (y_move rfl) ?_
  refine rw_p rfl rfl (y_fieldAddr rfl fo28_0) ?_
  refine rw_p rfl rfl (y_load rfl sc3 (hm0.nd 0 rfl id) rfl) ?_
  refine a_call rfl rfl rfl go35 (o_size D m Z _ (hZ.ext hm.to) hz) fun v w hR => ?_
  obtain ⟨rfl, hE⟩ := hR
  refine ⟨hh.ext hE, ?_⟩
  replace hm := hm.ext hE
  replace hh := hh.ext hE
  refine rw_p rfl rfl (y_as (c := false) (y_ne rfl rfl) (decide_eq_false (fun h => h rfl))) ?_
  refine rw_p rfl rfl (y_assign rfl) ?_
  refine rw_done ?_
  refine gn_sq ?_
  refine HW_condF rfl rfl rfl ?_
  refine HW_seq rfl ?_
  refine HW_draw (.pure 0 (.pure 2 (.pure 3 (.act 1 (.pure 4 (.pure 5 .done)))))) No mix (by kernel_rfl) hm fun w hw hm0 hh => ?_
  have hm := hm0
  refine rw_p rfl rfl (y_move rfl) ?_
  refine rw_p rfl rfl (y_fieldAddr rfl fo28_4) ?_
  refine rw_p rfl rfl (y_load rfl sc3 (hm0.nd 0 rfl id) rfl) ?_
  refine a_call rfl rfl rfl go16 (o_sectors D m Z _ (hZ.ext hm.to) hz) fun v w hR => ?_
  obtain ⟨rfl, hE⟩ := hR
  refine ⟨hh.ext hE, ?_⟩
  replace hm := hm.ext hE
  replace hh := hh.ext hE
  refine rw_p rfl rfl (y_as (c := false) (y_lt rfl rfl) (decide_eq_false (by omega))) ?_
  refine rw_p rfl rfl (y_assign rfl) ?_
  refine rw_done ?_
  refine gn_sq ?_
  refine HW_condF rfl rfl rfl ?_
  refine HW_skip rfl ?_
  refine gn_bl ?_
  refine gn_sq ?_
  refine HW_seq rfl ?_
  refine HW_text (.pure 0 .done) (by kernel_rfl) ?_
  refine rw_p rfl rfl (y_assign rfl) ?_
  refine rw_done ?_
  refine gn_sq ?_
  refine HW_ret rfl ?_
  refine toR (fin hret rfl (.tmp rfl .nil) .one ?_)
  exact ⟨rfl, hm.to⟩

set_option maxHeartbeats 800000 in
theorem y_prepB (s : Int) (x2 x3 fl x5 x6 k x : Int) (q : Option Addr) (cq : Nat) (ps : List SB) (BB : List UInt8) (w0 : World) (hq : Rd w0 q (ps.flatMap encS)) (hps : ∀ s ∈ ps, Rd w0 s.p (s.bs.flatMap encB)) (hl : ps.length ≤ 4611686018427387903) (hBB : ps.flatMap (·.bs) = BB) (hb : BB.length ≤ 140737488355328) (h0 : 0 ≤ x) (hfl : (BB.length : Int) ≤ fl) (hr : Pl.right s (IntKind.i64.wrap (k + x)) BB.length = false) : C Try.prog 13 [.agg ⟨[.int .i64 s, .int .i64 x2, .int .i64 x3, .int .i64 fl, .int .i64 x5, .int .i64 x6, .int .i64 k]⟩, .int .i64 x, .slice q ps.length cq] w0 fun v w' => v = .tuple ⟨[.pointer none, .int .i64 17]⟩ ∧ Ext No w0 w' := by
  refine C_of Try.func13 rfl rfl rfl fun κ hret hnorm => ?_
  have hm := Mem.start w0
  refine HW_seq rfl ?_
  refine HW_text (.act 0 (.pure 1 (.pure 2 .done))) (by kernel_rfl) ?_
  refine a_box rfl rfl rfl rfl hm trivial fun m1 w hg_m1 hm hh => ?_
  refine rw_p rfl rfl (y_assign rfl) ?_
  refine rw_p rfl rfl (y_assign rfl) ?_
  refine rw_done ?_
  refine gn_sq ?_
  refine HW_seq rfl ?_
  refine HW_text (.pure 0 (.act 1 (.pure 2 .done))) (by kernel_rfl) ?_
  refine rw_p rfl rfl (y_move rfl) ?_
  refine a_call rfl rfl rfl go32 (concat_b q cq ps _ (hq.ext0 hm.to) (fun s hs => (hps s hs).ext0 hm.to) hl (by rw [hBB]; exact hb)) fun v w hR => ?_
  obtain ⟨p_s, n_s, cap_s, g_s, b_s, rfl, ha_s, hmc⟩ := hR
  refine ⟨trivial, ?_⟩
  have hns := ha_s.lenB
  replace hm := hm.callN hmc
  rw [hBB] at ha_s hns
  subst hns
  refine rw_p rfl rfl (y_assign rfl) ?_
  refine rw_done ?_
  refine gn_sq ?_
  refine HW_seq rfl ?_
  refine HW_seq rfl ?_
  refine HW_text (.pure 0 (.pure 1 (.pure 2 (.pure 3 (.pure 4 (.pure 5 (.pure 6 (.pure 7 (.pure 8 (.pure 9 .done)))))))))) (by kernel_rfl) ?_
  refine rw_p rfl rfl (y_move rfl) ?_
  refine rw_p rfl rfl (y_as (c := false) (y_lt rfl rfl) (decide_eq_false (by omega))) ?_
  refine rw_p rfl rfl (y_move rfl) ?_
  refine rw_p rfl rfl (y_move rfl) ?_
  refine rw_p rfl rfl (y_len rfl rfl sl46) ?_
  refine rw_p rfl rfl (y_fieldAddr rfl fo28_2) ?_
  refine rw_p rfl rfl (y_fieldAddr rfl fo26_1) ?_
  refine rw_p rfl rfl (y_load rfl sc3 (hm.nt 1 rfl) rfl) ?_
  refine rw_p rfl rfl (y_as (c := false) (y_gt rfl rfl) (decide_eq_false (by omega))) ?_
  refine rw_p rfl rfl (y_pickF rfl rfl) ?_
  refine rw_done ?_
  refine gn_sq ?_
  refine HW_condF rfl rfl rfl ?_
  refine HW_skip rfl ?_
  refine gn_sq ?_
  refine HW_seq rfl ?_
  refine HW_text (.pure 0 (.pure 1 (.pure 2 (.pure 3 (.pure 4 (.pure 5 (.pure 6 (.act 7 (.act 8 (.pure 9 .done)))))))))) (by kernel_rfl) ?_
  refine rw_p rfl rfl (y_fieldAddr rfl fo28_0) ?_
  refine rw_p rfl rfl (y_load rfl sc3 (hm.nt 1 rfl) rfl) ?_
  refine rw_p rfl rfl (y_fieldAddr rfl fo28_4) ?_
  refine rw_p rfl rfl (y_load rfl sc3 (hm.nt 1 rfl) rfl) ?_
  refine rw_p rfl rfl (y_move rfl) ?_
  refine rw_p rfl rfl (y_add rfl rfl rfl) ?_
  refine rw_p rfl rfl (y_move rfl) ?_
  refine a_buildSlice (l := [_]) rfl rfl sl45 z46 rfl rfl rfl rfl rfl rfl rfl hm trivial fun m2 w hg_m2 hm hh => ?_
  refine a_call rfl rfl rfl go19 (o_newF s (IntKind.i64.wrap (k + x)) _ 1 [⟨p_s, cap_s, BB⟩] _ (Rd.row0 (hm.get (k := 0) rfl)) (fun s9 hs9 => by rw [List.mem_singleton.1 hs9]; exact ha_s.rd hm 1 rfl) (by simp) (by simp; omega) (by simp only [List.flatMap_cons, List.flatMap_nil, List.append_nil]; exact hr)) fun v w hR => ?_
  obtain ⟨rfl, hE⟩ := hR
  refine ⟨trivial, ?_⟩
  replace hm := hm.ext hE
  refine rw_p rfl rfl (y_assign rfl) ?_
  refine rw_done ?_
  refine gn_sq ?_
  refine HW_seq rfl ?_
  refine HW_text (.pure 0 .done) (by kernel_rfl) ?_
  refine rw_p rfl rfl (y_assign rfl) ?_
  refine rw_done ?_
  refine gn_sq ?_
  refine HW_seq rfl ?_
  refine HW_seq rfl ?_
  cases hq9 : eqL [.int .i64 s, .int .i64 x2, .int .i64 x3, .int .i64 fl, .int .i64 x5, .int .i64 x6, .int .i64 k] [.int .i64 0, .int .i64 0, .int .i64 0, .int .i64 0, .int .i64 0, .int .i64 0, .int .i64 0]
  ·
    refine HW_text (.pure 0 (.pure 1 (.pure 2 (.pure 3 (.pure 4 (.pure 5 (.pure 6 (.act 7 (.pure 8 (.pure 9 .done)))))))))) (by kernel_rfl) ?_
    refine rw_p rfl rfl (y_loadA (s := 7) (vs := [_, _, _, _, _, _, _]) rfl ag28 (hm.nt 2 rfl) rfl) ?_
    refine rw_p rfl rfl (y_build (cs := [_, _, _, _, _, _, _]) z28 ft28 rfl rfl rfl rfl rfl) ?_
    refine rw_p rfl rfl (y_as (c := false) (y_eqF rfl rfl fl28 rfl rfl) hq9) ?_
    refine rw_p rfl rfl (y_move rfl) ?_
    refine rw_p rfl rfl (y_move rfl) ?_
    refine rw_p rfl rfl (y_loadA (s := 7) (vs := [_, _, _, _, _, _, _]) rfl ag28 (hm.nt 2 rfl) rfl) ?_
    refine rw_p rfl rfl (y_move rfl) ?_
    refine a_callV rfl rfl rfl rfl go15 (y_checkN s x2 x3 fl x5 x6 k _) fun v w hR => ?_
    obtain ⟨rfl, hE⟩ := hR
    refine ⟨trivial, ?_⟩
    replace hm := hm.ext hE
    refine rw_p rfl rfl (y_as (c := true) (y_ne rfl rfl) (by decide)) ?_
    refine rw_p rfl rfl (y_pickF rfl rfl) ?_
    refine rw_done ?_
    refine gn_sq ?_
    refine HW_condT rfl rfl rfl ?_
    refine HW_seq rfl ?_
    refine HW_text (.pure 0 (.pure 1 .done)) (by kernel_rfl) ?_
    refine rw_p rfl rfl (y_assign rfl) ?_
    refine rw_p rfl rfl (y_assign rfl) ?_
    refine rw_done ?_
    refine gn_sq ?_
    refine HW_ret rfl ?_
    refine gr_sq ?_
    refine toR (fin hret rfl (.tmp rfl (.tmp rfl .nil)) .more ?_)
    exact ⟨rfl, hm.to⟩
  ·
    refine HW_text (.pure 0 (.pure 1 (.pure 2 (.pure 3 (.pure 4 (.pure 5 (.pure 6 (.act 7 (.pure 8 (.pure 9 .done)))))))))) (by kernel_rfl) ?_
    refine rw_p rfl rfl (y_loadA (s := 7) (vs := [_, _, _, _, _, _, _]) rfl ag28 (hm.nt 2 rfl) rfl) ?_
    refine rw_p rfl rfl (y_build (cs := [_, _, _, _, _, _, _]) z28 ft28 rfl rfl rfl rfl rfl) ?_
    refine rw_p rfl rfl (y_as (c := true) (y_eqF rfl rfl fl28 rfl rfl) hq9) ?_
    refine rw_p rfl rfl (y_move rfl) ?_
    refine rw_gf rfl rfl (by decide) rfl ?_
    refine rw_gf rfl rfl (by decide) rfl ?_
    refine rw_gf rfl rfl (by decide) rfl ?_
    refine a_gf rfl rfl (by decide) rfl trivial ?_
    refine rw_gf rfl rfl (by decide) rfl ?_
    refine rw_p rfl rfl (y_pickT rfl rfl) ?_
    refine rw_done ?_
    refine gn_sq ?_
    refine HW_condT rfl rfl rfl ?_
    refine HW_seq rfl ?_
    refine HW_text (.pure 0 (.pure 1 .done)) (by kernel_rfl) ?_
    refine rw_p rfl rfl (y_assign rfl) ?_
    refine rw_p rfl rfl (y_assign rfl) ?_
    refine rw_done ?_
    refine gn_sq ?_
    refine HW_ret rfl ?_
    refine gr_sq ?_
    refine toR (fin hret rfl (.tmp rfl (.tmp rfl .nil)) .more ?_)
    exact ⟨rfl, hm.to⟩

set_option maxHeartbeats 800000 in
theorem y_prepC (a c : Nat) (x2 x3 fl x5 x6 k x : Int) (q : Option Addr) (cq : Nat) (ps : List SB) (BB : List UInt8) (w0 : World) (hq : Rd w0 q (ps.flatMap encS)) (hps : ∀ s ∈ ps, Rd w0 s.p (s.bs.flatMap encB)) (hl : ps.length ≤ 4611686018427387903) (hBB : ps.flatMap (·.bs) = BB) (hb : BB.length ≤ 140737488355328) (h0 : 0 ≤ x) (hfl : (BB.length : Int) ≤ fl) (hkc : k + x = (c : Int)) (hr : Pl.right (a : Int) (c : Int) BB.length = true) : C Try.prog 13 [.agg ⟨[.int .i64 (a : Int), .int .i64 x2, .int .i64 x3, .int .i64 fl, .int .i64 x5, .int .i64 x6, .int .i64 k]⟩, .int .i64 x, .slice q ps.length cq] w0 fun v w' => ∃ m Z, v = .tuple ⟨[.pointer (some ⟨m, 0, none⟩), .int .i64 0]⟩ ∧ DevZ 87 133 5 (Pl.nDv a c BB) m Z ∧ Mem w0 w' No Z := by
  obtain ⟨r1, r2, r3, r4⟩ := rightB hr
  have hane : a ≠ 0 := by omega
  refine C_of Try.func13 rfl rfl rfl fun κ hret hnorm => ?_
  have hm := Mem.start w0
  refine HW_seq rfl ?_
  refine HW_text (.act 0 (.pure 1 (.pure 2 .done))) (by kernel_rfl) ?_
  refine a_box rfl rfl rfl rfl hm trivial fun m1 w hg_m1 hm hh => ?_
  refine rw_p rfl rfl (y_assign rfl) ?_
  refine rw_p rfl rfl (y_assign rfl) ?_
  refine rw_done ?_
  refine gn_sq ?_
  refine HW_seq rfl ?_
  refine HW_text (.pure 0 (.act 1 (.pure 2 .done))) (by kernel_rfl) ?_
  refine rw_p rfl rfl (y_move rfl) ?_
  refine a_call rfl rfl rfl go32 (concat_b q cq ps _ (hq.ext0 hm.to) (fun s hs => (hps s hs).ext0 hm.to) hl (by rw [hBB]; exact hb)) fun v w hR => ?_
  obtain ⟨p_s, n_s, cap_s, g_s, b_s, rfl, ha_s, hmc⟩ := hR
  refine ⟨trivial, ?_⟩
  have hns := ha_s.lenB
  replace hm := hm.callN hmc
  rw [hBB] at ha_s hns
  subst hns
  refine rw_p rfl rfl (y_assign rfl) ?_
  refine rw_done ?_
  refine gn_sq ?_
  refine HW_seq rfl ?_
  refine HW_seq rfl ?_
  refine HW_text (.pure 0 (.pure 1 (.pure 2 (.pure 3 (.pure 4 (.pure 5 (.pure 6 (.pure 7 (.pure 8 (.pure 9 .done)))))))))) (by kernel_rfl) ?_
  refine rw_p rfl rfl (y_move rfl) ?_
  refine rw_p rfl rfl (y_as (c := false) (y_lt rfl rfl) (decide_eq_false (by omega))) ?_
  refine rw_p rfl rfl (y_move rfl) ?_
  refine rw_p rfl rfl (y_move rfl) ?_
  refine rw_p rfl rfl (y_len rfl rfl sl46) ?_
  refine rw_p rfl rfl (y_fieldAddr rfl fo28_2) ?_
  refine rw_p rfl rfl (y_fieldAddr rfl fo26_1) ?_
  refine rw_p rfl rfl (y_load rfl sc3 (hm.nt 1 rfl) rfl) ?_
  refine rw_p rfl rfl (y_as (c := false) (y_gt rfl rfl) (decide_eq_false (by omega))) ?_
  refine rw_p rfl rfl (y_pickF rfl rfl) ?_
  refine rw_done ?_
  refine gn_sq ?_
  refine HW_condF rfl rfl rfl ?_
  refine HW_skip rfl ?_
  refine gn_sq ?_
  refine HW_seq rfl ?_
  refine HW_text (.pure 0 (.pure 1 (.pure 2 (.pure 3 (.pure 4 (.pure 5 (.pure 6 (.act 7 (.act 8 (.pure 9 .done)))))))))) (by kernel_rfl) ?_
  refine rw_p rfl rfl (y_fieldAddr rfl fo28_0) ?_
  refine rw_p rfl rfl (y_load rfl sc3 (hm.nt 1 rfl) rfl) ?_
  refine rw_p rfl rfl (y_fieldAddr rfl fo28_4) ?_
  refine rw_p rfl rfl (y_load rfl sc3 (hm.nt 1 rfl) rfl) ?_
  refine rw_p rfl rfl (y_move rfl) ?_
  refine rw_p rfl rfl (y_add rfl rfl ((congrArg IntKind.i64.wrap hkc).trans (i64w (by omega) (by omega)))) ?_
  refine rw_p rfl rfl (y_move rfl) ?_
  refine a_buildSlice (l := [_]) rfl rfl sl45 z46 rfl rfl rfl rfl rfl rfl rfl hm trivial fun m2 w hg_m2 hm hh => ?_
  refine a_call rfl rfl rfl go19 (o_newN a c _ 1 [⟨p_s, cap_s, BB⟩] _ (Rd.row0 (hm.get (k := 0) rfl)) (fun s9 hs9 => by rw [List.mem_singleton.1 hs9]; exact ha_s.rd hm 1 rfl) (by simp) (by simp; omega) BB (by simp) hr) fun v w hR => ?_
  obtain ⟨m, Z, rfl, hz, hmc⟩ := hR
  refine ⟨trivial, ?_⟩
  replace hm := hm.callTZ hmc
  refine rw_p rfl rfl (y_assign rfl) ?_
  refine rw_done ?_
  refine gn_sq ?_
  refine HW_seq rfl ?_
  refine HW_text (.pure 0 .done) (by kernel_rfl) ?_
  refine rw_p rfl rfl (y_assign rfl) ?_
  refine rw_done ?_
  refine gn_sq ?_
  refine HW_seq rfl ?_
  refine HW_seq rfl ?_
  refine HW_text (.pure 0 (.pure 1 (.pure 2 (.pure 3 (.pure 4 (.pure 5 (.pure 6 (.act 7 (.pure 8 (.pure 9 .done)))))))))) (by kernel_rfl) ?_
  refine rw_p rfl rfl (y_loadA (s := 7) (vs := [_, _, _, _, _, _, _]) rfl ag28 (hm.nt 2 rfl) rfl) ?_
  refine rw_p rfl rfl (y_build (cs := [_, _, _, _, _, _, _]) z28 ft28 rfl rfl rfl rfl rfl) ?_
  refine rw_p rfl rfl (y_as (c := false) (y_eqF rfl rfl fl28 rfl rfl) (by simp [eqL, lfEq, hane])) ?_
  refine rw_p rfl rfl (y_move rfl) ?_
  refine rw_p rfl rfl (y_move rfl) ?_
  refine rw_p rfl rfl (y_loadA (s := 7) (vs := [_, _, _, _, _, _, _]) rfl ag28 (hm.nt 2 rfl) rfl) ?_
  refine rw_p rfl rfl (y_move rfl) ?_
  refine a_callV rfl rfl rfl rfl go15 (y_check (Pl.nDv a c BB) m Z _ (OwnZ.right (A := [_, _, _]) hm.ownZ) hz x2 x3 fl x5 x6 k (show k ≤ (c : Int) by omega)) fun v w hR => ?_
  obtain ⟨rfl, hE⟩ := hR
  refine ⟨trivial, ?_⟩
  replace hm := hm.ext hE
  refine rw_p rfl rfl (y_as (c := false) (y_ne rfl rfl) (by decide)) ?_
  refine rw_p rfl rfl (y_pickF rfl rfl) ?_
  refine rw_done ?_
  refine gn_sq ?_
  refine HW_condF rfl rfl rfl ?_
  refine HW_skip rfl ?_
  refine gn_sq ?_
  refine HW_seq rfl ?_
  refine HW_text (.pure 0 (.pure 1 (.pure 2 .done))) (by kernel_rfl) ?_
  refine rw_p rfl rfl (y_move rfl) ?_
  refine rw_p rfl rfl (y_assign rfl) ?_
  refine rw_p rfl rfl (y_assign rfl) ?_
  refine rw_done ?_
  refine gn_sq ?_
  refine HW_ret rfl ?_
  refine toR (fin hret rfl (.tmp rfl (.tmp rfl .nil)) .more ?_)
  exact ⟨m, Z, rfl, hz, (hm.pickT [] 3 rfl)⟩

theorem r_prepA (s : Int) (x2 x3 fl x5 x6 k x : Int) (q : Option Addr) (cq : Nat) (BB : List UInt8) (w0 : World) (hq : Rd w0 q (BB.flatMap encB)) (hb : BB.length ≤ 140737488355328) (hbad : x < 0 ∨ fl < (BB.length : Int)) : C Try.prog 14 [.agg ⟨[.int .i64 s, .int .i64 x2, .int .i64 x3, .int .i64 fl, .int .i64 x5, .int .i64 x6, .int .i64 k]⟩, .int .i64 x, .slice q BB.length cq] w0 fun v w' => v = .tuple ⟨[.pointer none, .int .i64 2]⟩ ∧ Ext No w0 w' := by
  refine C_of Try.func14 rfl rfl rfl fun κ hret hnorm => ?_
  have hm := Mem.start w0
  refine HW_seq rfl ?_
  refine HW_text (.act 0 (.pure 1 (.pure 2 .done))) (by kernel_rfl) ?_
  refine a_box rfl rfl rfl rfl hm trivial fun m1 w hg_m1 hm hh => ?_
  refine rw_p rfl rfl (y_assign rfl) ?_
  refine rw_p rfl rfl (y_assign rfl) ?_
  refine rw_done ?_
  refine gn_sq ?_
  refine HW_seq rfl ?_
  refine HW_seq rfl ?_
  by_cases hx0 : x < 0
  ·
    refine HW_text (.pure 0 (.pure 1 (.pure 2 (.pure 3 (.pure 4 (.pure 5 (.pure 6 (.pure 7 (.pure 8 (.pure 9 .done)))))))))) (by kernel_rfl) ?_
    refine rw_p rfl rfl (y_move rfl) ?_
    refine rw_p rfl rfl (y_as (c := true) (y_lt rfl rfl) (decide_eq_true (by omega))) ?_
    refine rw_p rfl rfl (y_move rfl) ?_
    refine rw_gf rfl rfl (by decide) rfl ?_
    refine rw_gf rfl rfl (by decide) rfl ?_
    refine rw_gf rfl rfl (by decide) rfl ?_
    refine rw_gf rfl rfl (by decide) rfl ?_
    refine rw_gf rfl rfl (by decide) rfl ?_
    refine rw_gf rfl rfl (by decide) rfl ?_
    refine rw_p rfl rfl (y_pickT rfl rfl) ?_
    refine rw_done ?_
    refine gn_sq ?_
    refine HW_condT rfl rfl rfl ?_
    refine HW_seq rfl ?_
    refine HW_text (.pure 0 (.pure 1 .done)) (by kernel_rfl) ?_
    refine rw_p rfl rfl (y_assign rfl) ?_
    refine rw_p rfl rfl (y_assign rfl) ?_
    refine rw_done ?_
    refine gn_sq ?_
    refine HW_ret rfl ?_
    refine gr_sq ?_
    refine toR (fin hret rfl (.tmp rfl (.tmp rfl .nil)) .more ?_)
    exact ⟨rfl, hm.to⟩
  ·
    refine HW_text (.pure 0 (.pure 1 (.pure 2 (.pure 3 (.pure 4 (.pure 5 (.pure 6 (.pure 7 (.pure 8 (.pure 9 .done)))))))))) (by kernel_rfl) ?_
    refine rw_p rfl rfl (y_move rfl) ?_
    refine rw_p rfl rfl (y_as (c := false) (y_lt rfl rfl) (decide_eq_false (by omega))) ?_
    refine rw_p rfl rfl (y_move rfl) ?_
    refine rw_p rfl rfl (y_move rfl) ?_
    refine rw_p rfl rfl (y_len rfl rfl sl46) ?_
    refine rw_p rfl rfl (y_fieldAddr rfl fo32_2) ?_
    refine rw_p rfl rfl (y_fieldAddr rfl fo26_1) ?_
    refine rw_p rfl rfl (y_load rfl sc3 (hm.nt 0 rfl) rfl) ?_
    refine rw_p rfl rfl (y_as (c := true) (y_gt rfl rfl) (decide_eq_true (by omega))) ?_
    refine rw_p rfl rfl (y_pickF rfl rfl) ?_
    refine rw_done ?_
    refine gn_sq ?_
    refine HW_condT rfl rfl rfl ?_
    refine HW_seq rfl ?_
    refine HW_text (.pure 0 (.pure 1 .done)) (by kernel_rfl) ?_
    refine rw_p rfl rfl (y_assign rfl) ?_
    refine rw_p rfl rfl (y_assign rfl) ?_
    refine rw_done ?_
    refine gn_sq ?_
    refine HW_ret rfl ?_
    refine gr_sq ?_
    refine toR (fin hret rfl (.tmp rfl (.tmp rfl .nil)) .more ?_)
    exact ⟨rfl, hm.to⟩

theorem r_prepB (s : Int) (x2 x3 fl x5 x6 k x : Int) (q : Option Addr) (cq : Nat) (BB : List UInt8) (w0 : World) (hq : Rd w0 q (BB.flatMap encB)) (hb : BB.length ≤ 140737488355328) (h0 : 0 ≤ x) (hfl : (BB.length : Int) ≤ fl) (hr : Pl.right s (IntKind.i64.wrap (k + x)) BB.length = false) : C Try.prog 14 [.agg ⟨[.int .i64 s, .int .i64 x2, .int .i64 x3, .int .i64 fl, .int .i64 x5, .int .i64 x6, .int .i64 k]⟩, .int .i64 x, .slice q BB.length cq] w0 fun v w' => v = .tuple ⟨[.pointer none, .int .i64 17]⟩ ∧ Ext No w0 w' := by
  refine C_of Try.func14 rfl rfl rfl fun κ hret hnorm => ?_
  have hm := Mem.start w0
  refine HW_seq rfl ?_
  refine HW_text (.act 0 (.pure 1 (.pure 2 .done))) (by kernel_rfl) ?_
  refine a_box rfl rfl rfl rfl hm trivial fun m1 w hg_m1 hm hh => ?_
  refine rw_p rfl rfl (y_assign rfl) ?_
  refine rw_p rfl rfl (y_assign rfl) ?_
  refine rw_done ?_
  refine gn_sq ?_
  refine HW_seq rfl ?_
  refine HW_seq rfl ?_
  refine HW_text (.pure 0 (.pure 1 (.pure 2 (.pure 3 (.pure 4 (.pure 5 (.pure 6 (.pure 7 (.pure 8 (.pure 9 .done)))))))))) (by kernel_rfl) ?_
  refine rw_p rfl rfl (y_move rfl) ?_
  refine rw_p rfl rfl (y_as (c := false) (y_lt rfl rfl) (decide_eq_false (by omega))) ?_
  refine rw_p rfl rfl (y_move rfl) ?_
  refine rw_p rfl rfl (y_move rfl) ?_
  refine rw_p rfl rfl (y_len rfl rfl sl46) ?_
  refine rw_p rfl rfl (y_fieldAddr rfl fo32_2) ?_
  refine rw_p rfl rfl (y_fieldAddr rfl fo26_1) ?_
  refine rw_p rfl rfl (y_load rfl sc3 (hm.nt 0 rfl) rfl) ?_
  refine rw_p rfl rfl (y_as (c := false) (y_gt rfl rfl) (decide_eq_false (by omega))) ?_
  refine rw_p rfl rfl (y_pickF rfl rfl) ?_
  refine rw_done ?_
  refine gn_sq ?_
  refine HW_condF rfl rfl rfl ?_
  refine HW_skip rfl ?_
  refine gn_sq ?_
  refine HW_seq rfl ?_
  refine HW_seq rfl ?_
  by_cases hx1 : 1048576 < x
  ·
    refine HW_text (.pure 0 (.pure 1 (.pure 2 (.pure 3 (.pure 4 (.pure 5 (.pure 6 (.pure 7 (.pure 8 (.pure 9 (.pure 10 (.act 11 (.pure 12 (.pure 13 .done)))))))))))))) (by kernel_rfl) ?_
    refine rw_p rfl rfl (y_move rfl) ?_
    refine rw_p rfl rfl (y_as (c := true) (y_gt rfl rfl) (decide_eq_true (by omega))) ?_
    refine rw_p rfl rfl (y_move rfl) ?_
    refine rw_gf rfl rfl (by decide) rfl ?_
    refine rw_gf rfl rfl (by decide) rfl ?_
    refine rw_gf rfl rfl (by decide) rfl ?_
    refine rw_gf rfl rfl (by decide) rfl ?_
    refine rw_gf rfl rfl (by decide) rfl ?_
    refine rw_gf rfl rfl (by decide) rfl ?_
    refine rw_gf rfl rfl (by decide) rfl ?_
    refine rw_gf rfl rfl (by decide) rfl ?_
    refine a_gf rfl rfl (by decide) rfl trivial ?_
    refine rw_gf rfl rfl (by decide) rfl ?_
    refine rw_p rfl rfl (y_pickT rfl rfl) ?_
    refine rw_done ?_
    refine gn_sq ?_
    refine HW_condT rfl rfl rfl ?_
    refine HW_seq rfl ?_
    refine HW_text (.pure 0 (.pure 1 .done)) (by kernel_rfl) ?_
    refine rw_p rfl rfl (y_assign rfl) ?_
    refine rw_p rfl rfl (y_assign rfl) ?_
    refine rw_done ?_
    refine gn_sq ?_
    refine HW_ret rfl ?_
    refine gr_sq ?_
    refine toR (fin hret rfl (.tmp rfl (.tmp rfl .nil)) .more ?_)
    exact ⟨rfl, hm.to⟩
  ·
    refine HW_text (.pure 0 (.pure 1 (.pure 2 (.pure 3 (.pure 4 (.pure 5 (.pure 6 (.pure 7 (.pure 8 (.pure 9 (.pure 10 (.act 11 (.pure 12 (.pure 13 .done)))))))))))))) (by kernel_rfl) ?_
    refine rw_p rfl rfl (y_move rfl) ?_
    refine rw_p rfl rfl (y_as (c := false) (y_gt rfl rfl) (decide_eq_false (by omega))) ?_
    refine rw_p rfl rfl (y_move rfl) ?_
    refine rw_p rfl rfl (y_fieldAddr rfl fo32_0) ?_
    refine rw_p rfl rfl (y_load rfl sc3 (hm.nt 0 rfl) rfl) ?_
    refine rw_p rfl rfl (y_fieldAddr rfl fo32_4) ?_
    refine rw_p rfl rfl (y_load rfl sc3 (hm.nt 0 rfl) rfl) ?_
    refine rw_p rfl rfl (y_move rfl) ?_
    refine rw_p rfl rfl (y_add rfl rfl rfl) ?_
    refine rw_p rfl rfl (y_move rfl) ?_
    refine rw_p rfl rfl (y_len rfl rfl sl46) ?_
    refine a_call rfl rfl rfl go33 (C.as (v := .bool false) (r19_right s (IntKind.i64.wrap (k + x)) BB.length _ (by unfold Pl.I64; omega)) (by rw [hr])) fun v w hR => ?_
    obtain ⟨rfl, hE⟩ := hR
    refine ⟨trivial, ?_⟩
    replace hm := hm.ext hE
    refine rw_p rfl rfl (y_not rfl) ?_
    refine rw_p rfl rfl (y_pickF rfl rfl) ?_
    refine rw_done ?_
    refine gn_sq ?_
    refine HW_condT rfl rfl rfl ?_
    refine HW_seq rfl ?_
    refine HW_text (.pure 0 (.pure 1 .done)) (by kernel_rfl) ?_
    refine rw_p rfl rfl (y_assign rfl) ?_
    refine rw_p rfl rfl (y_assign rfl) ?_
    refine rw_done ?_
    refine gn_sq ?_
    refine HW_ret rfl ?_
    refine gr_sq ?_
    refine toR (fin hret rfl (.tmp rfl (.tmp rfl .nil)) .more ?_)
    exact ⟨rfl, hm.to⟩

theorem r_prepC (a c : Nat) (x2 x3 fl x5 x6 k x : Int) (q : Option Addr) (cq : Nat) (BB : List UInt8) (w0 : World) (hq : Rd w0 q (BB.flatMap encB)) (hb : BB.length ≤ 140737488355328) (h0 : 0 ≤ x) (hfl : (BB.length : Int) ≤ fl) (hx1 : x ≤ 1048576) (hkc : k + x = (c : Int)) (hr : Pl.right (a : Int) (c : Int) BB.length = true) : C Try.prog 14 [.agg ⟨[.int .i64 (a : Int), .int .i64 x2, .int .i64 x3, .int .i64 fl, .int .i64 x5, .int .i64 x6, .int .i64 k]⟩, .int .i64 x, .slice q BB.length cq] w0 fun v w' => ∃ m Z, v = .tuple ⟨[.pointer (some ⟨m, 0, none⟩), .int .i64 0]⟩ ∧ RefZ 58 169 5 (Pl.nDv a c BB) m Z ∧ Mem w0 w' No Z := by
  obtain ⟨r1, r2, r3, r4⟩ := rightB hr
  obtain ⟨_, _, r5, r6⟩ := Pl.right_of hr
  have hac : (a : Int) * (c : Int) = ((c * a : Nat) : Int) := by rw [Nat.mul_comm]; norm_cast
  rw [hac] at r5 r6
  refine C_of Try.func14 rfl rfl rfl fun κ hret hnorm => ?_
  have hm := Mem.start w0
  refine HW_seq rfl ?_
  refine HW_text (.act 0 (.pure 1 (.pure 2 .done))) (by kernel_rfl) ?_
  refine a_box rfl rfl rfl rfl hm trivial fun m1 w hg_m1 hm hh => ?_
  refine rw_p rfl rfl (y_assign rfl) ?_
  refine rw_p rfl rfl (y_assign rfl) ?_
  refine rw_done ?_
  refine gn_sq ?_
  refine HW_seq rfl ?_
  refine HW_seq rfl ?_
  refine HW_text (.pure 0 (.pure 1 (.pure 2 (.pure 3 (.pure 4 (.pure 5 (.pure 6 (.pure 7 (.pure 8 (.pure 9 .done)))))))))) (by kernel_rfl) ?_
  refine rw_p rfl rfl (y_move rfl) ?_
  refine rw_p rfl rfl (y_as (c := false) (y_lt rfl rfl) (decide_eq_false (by omega))) ?_
  refine rw_p rfl rfl (y_move rfl) ?_
  refine rw_p rfl rfl (y_move rfl) ?_
  refine rw_p rfl rfl (y_len rfl rfl sl46) ?_
  refine rw_p rfl rfl (y_fieldAddr rfl fo32_2) ?_
  refine rw_p rfl rfl (y_fieldAddr rfl fo26_1) ?_
  refine rw_p rfl rfl (y_load rfl sc3 (hm.nt 0 rfl) rfl) ?_
  refine rw_p rfl rfl (y_as (c := false) (y_gt rfl rfl) (decide_eq_false (by omega))) ?_
  refine rw_p rfl rfl (y_pickF rfl rfl) ?_
  refine rw_done ?_
  refine gn_sq ?_
  refine HW_condF rfl rfl rfl ?_
  refine HW_skip rfl ?_
  refine gn_sq ?_
  refine HW_seq rfl ?_
  refine HW_seq rfl ?_
  refine HW_text (.pure 0 (.pure 1 (.pure 2 (.pure 3 (.pure 4 (.pure 5 (.pure 6 (.pure 7 (.pure 8 (.pure 9 (.pure 10 (.act 11 (.pure 12 (.pure 13 .done)))))))))))))) (by kernel_rfl) ?_
  refine rw_p rfl rfl (y_move rfl) ?_
  refine rw_p rfl rfl (y_as (c := false) (y_gt rfl rfl) (decide_eq_false (by omega))) ?_
  refine rw_p rfl rfl (y_move rfl) ?_
  refine rw_p rfl rfl (y_fieldAddr rfl fo32_0) ?_
  refine rw_p rfl rfl (y_load rfl sc3 (hm.nt 0 rfl) rfl) ?_
  refine rw_p rfl rfl (y_fieldAddr rfl fo32_4) ?_
  refine rw_p rfl rfl (y_load rfl sc3 (hm.nt 0 rfl) rfl) ?_
  refine rw_p rfl rfl (y_move rfl) ?_
  refine rw_p rfl rfl (y_add rfl rfl ((congrArg IntKind.i64.wrap hkc).trans (i64w (by omega) (by omega)))) ?_
  refine rw_p rfl rfl (y_move rfl) ?_
  refine rw_p rfl rfl (y_len rfl rfl sl46) ?_
  refine a_call rfl rfl rfl go33 (C.as (v := .bool true) (r19_right a c BB.length _ (by unfold Pl.I64; omega)) (by rw [hr])) fun v w hR => ?_
  obtain ⟨rfl, hE⟩ := hR
  refine ⟨trivial, ?_⟩
  replace hm := hm.ext hE
  refine rw_p rfl rfl (y_not rfl) ?_
  refine rw_p rfl rfl (y_pickF rfl rfl) ?_
  refine rw_done ?_
  refine gn_sq ?_
  refine HW_condF rfl rfl rfl ?_
  refine HW_skip rfl ?_
  refine gn_sq ?_
  refine HW_seq rfl ?_
  refine HW_text (.pure 0 (.pure 1 (.pure 2 (.pure 3 (.pure 4 (.pure 5 (.pure 6 (.act 7 (.pure 8 (.pure 9 .done)))))))))) (by kernel_rfl) ?_
  refine rw_p rfl rfl (y_fieldAddr rfl fo32_0) ?_
  refine rw_p rfl rfl (y_load rfl sc3 (hm.nt 0 rfl) rfl) ?_
  refine rw_p rfl rfl (y_fieldAddr rfl fo32_4) ?_
  refine rw_p rfl rfl (y_load rfl sc3 (hm.nt 0 rfl) rfl) ?_
  refine rw_p rfl rfl (y_move rfl) ?_
  refine rw_p rfl rfl (y_add rfl rfl ((congrArg IntKind.i64.wrap hkc).trans (i64w (by omega) (by omega)))) ?_
  refine rw_p rfl rfl (y_move rfl) ?_
  refine a_call rfl rfl rfl go34 (rf_new a c q cq BB _ (hq.ext0 hm.to) (by omega) (by omega) (by omega) (by omega)) fun v w hR => ?_
  obtain ⟨mr, Zr, rfl, hy, hmc⟩ := hR
  refine ⟨trivial, ?_⟩
  replace hm := hm.callTZ hmc
  refine rw_p rfl rfl (y_assign rfl) ?_
  refine rw_p rfl rfl (y_assign rfl) ?_
  refine rw_done ?_
  refine gn_sq ?_
  refine HW_ret rfl ?_
  refine toR (fin hret rfl (.tmp rfl (.tmp rfl .nil)) .more ?_)
  exact ⟨mr, Zr, rfl, hy, (hm.pickT [] 1 rfl)⟩

end Go.Proofs.Ytibdmklcdllklaa
