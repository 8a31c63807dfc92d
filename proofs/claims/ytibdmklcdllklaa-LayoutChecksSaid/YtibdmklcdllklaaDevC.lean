/- Contracts of functions of the program: what each returns. Conditions: the hypotheses of each theorem. -/
import Derived.Test.YtibdmklcdllklaaDev
set_option linter.unusedVariables false
set_option linter.unusedSimpArgs false
namespace Go.Proofs.Ytibdmklcdllklaa
open Go Go.Cx

theorem ft79 : fldT Try.prog 79 = some [(0, 1), (1, 1)] := by kernel_rfl
theorem ft81 : fldT Try.prog 81 = some [(0, 1), (1, 1)] := by kernel_rfl
theorem ft87 : fldT Try.prog 87 = some [(0, 2), (2, 2), (4, 5), (9, 1), (10, 1), (11, 1)] := by kernel_rfl
theorem go32 : isGo Try.prog 32 = true := by kernel_rfl
theorem z79 : zer Try.prog 79 = some [.int .i64 0, .slice none 0 0] := by kernel_rfl
theorem z81 : zer Try.prog 81 = some [.int .i64 0, .int .u64 0] := by kernel_rfl
theorem z87 : zer Try.prog 87 = some [.int .i64 0, .slice none 0 0, .int .i64 0, .int .u64 0, .int .i64 0, .int .i64 0, .int .i64 0, .int .i64 0, .int .i64 0, .slice none 0 0, .map none, .bool false] := by kernel_rfl

set_option maxHeartbeats 800000 in
theorem d_new (x y : Int) (q : Option Addr) (cq : Nat) (ps : List SB) (w0 : World) (hq : Rd w0 q (ps.flatMap encS)) (hps : ∀ s ∈ ps, Rd w0 s.p (s.bs.flatMap encB)) (hl : ps.length ≤ 4611686018427387903) (hb : (ps.flatMap (·.bs)).length ≤ 140737488355328) : C Try.prog 19 [.int .i64 x, .int .i64 y, .slice q ps.length cq] w0 fun v w' => if Pl.right x y (ps.flatMap (·.bs)).length = true then ∃ m Z, v = .pointer (some ⟨m, 0, none⟩) ∧ DevZ 87 133 5 (Pl.nDv x.toNat y.toNat (ps.flatMap (·.bs))) m Z ∧ Mem w0 w' No Z else v = .pointer none ∧ Ext No w0 w' := by
  obtain ⟨BB, hBB⟩ : ∃ B9, ps.flatMap (·.bs) = B9 := ⟨_, rfl⟩
  refine C_of Try.func19 rfl rfl rfl fun κ hret hnorm => ?_
  have hm := Mem.start w0
  refine HW_seq rfl ?_
  refine HW_text (.pure 0 .done) (by kernel_rfl) ?_
  refine rw_p rfl rfl (y_assign rfl) ?_
  refine rw_done ?_
  refine gn_sq ?_
  refine HW_seq rfl ?_
  refine HW_text (.pure 0 (.act 1 (.pure 2 .done))) (by kernel_rfl) ?_
  refine rw_p rfl rfl (y_move rfl) ?_
  refine a_call rfl rfl rfl go32 (concat_b q cq ps _ (hq.ext0 hm.to) (fun s hs => (hps s hs).ext0 hm.to) hl hb) fun v w hR => ?_
  obtain ⟨p_s, n_s, cap_s, g_s, b_s, rfl, ha_s, hmc⟩ := hR
  refine ⟨trivial, ?_⟩
  have hns := ha_s.lenB
  replace hm := hm.callN hmc
  rw [hBB] at ha_s hns hb
  refine rw_p rfl rfl (y_assign rfl) ?_
  refine rw_done ?_
  refine gn_sq ?_
  refine HW_seq rfl ?_
  refine HW_seq rfl ?_
  rcases right4 x y BB.length with h | ⟨h1, h2, h3⟩ | ⟨h1, h2, h3, h4⟩ | ⟨h1, h2, h3, h4⟩
  ·
    have hrt : Pl.right x y BB.length = false := decide_eq_false (by omega)
    refine HW_text (.pure 0 (.pure 1 (.pure 2 (.pure 3 (.pure 4 (.pure 5 (.pure 6 (.pure 7 (.pure 8 (.pure 9 (.pure 10 (.pure 11 (.pure 12 (.pure 13 (.pure 14 (.pure 15 (.pure 16 (.pure 17 .done)))))))))))))))))) (by kernel_rfl) ?_
    refine rw_p rfl rfl (y_move rfl) ?_
    refine rw_p rfl rfl (y_move rfl) ?_
    refine rw_p rfl rfl (y_min rfl rfl) ?_
    refine rw_p rfl rfl (y_as (c := true) (y_lt rfl rfl) (decide_eq_true (by omega))) ?_
    refine rw_p rfl rfl (y_move rfl) ?_
    refine rw_gf rfl rfl (by decide) rfl ?_
    refine rw_gf rfl rfl (by decide) rfl ?_
    refine rw_gf rfl rfl (by decide) rfl ?_
    refine rw_gf rfl rfl (by decide) rfl ?_
    refine rw_p rfl rfl (y_pickT rfl rfl) ?_
    refine rw_p rfl rfl (y_move rfl) ?_
    refine rw_gf rfl rfl (by decide) rfl ?_
    refine rw_gf rfl rfl (by decide) rfl ?_
    refine rw_gf rfl rfl (by decide) rfl ?_
    refine rw_gf rfl rfl (by decide) rfl ?_
    refine rw_gf rfl rfl (by decide) rfl ?_
    refine rw_gf rfl rfl (by decide) rfl ?_
    refine rw_p rfl rfl (y_pickT rfl rfl) ?_
    refine rw_done ?_
    refine gn_sq ?_
    refine HW_condT rfl rfl rfl ?_
    refine HW_seq rfl ?_
    refine HW_text (.pure 0 .done) (by kernel_rfl) ?_
    refine rw_p rfl rfl (y_assign rfl) ?_
    refine rw_done ?_
    refine gn_sq ?_
    refine HW_ret rfl ?_
    refine gr_sq ?_
    refine toR (fin hret rfl (.tmp rfl .nil) .one ?_)
    rw [hBB, if_neg (by rw [hrt]; decide)]
    exact ⟨rfl, hm.to⟩
  ·
    have hrt : Pl.right x y BB.length = false := decide_eq_false (by omega)
    refine HW_text (.pure 0 (.pure 1 (.pure 2 (.pure 3 (.pure 4 (.pure 5 (.pure 6 (.pure 7 (.pure 8 (.pure 9 (.pure 10 (.pure 11 (.pure 12 (.pure 13 (.pure 14 (.pure 15 (.pure 16 (.pure 17 .done)))))))))))))))))) (by kernel_rfl) ?_
    refine rw_p rfl rfl (y_move rfl) ?_
    refine rw_p rfl rfl (y_move rfl) ?_
    refine rw_p rfl rfl (y_min rfl rfl) ?_
    refine rw_p rfl rfl (y_as (c := false) (y_lt rfl rfl) (decide_eq_false (by omega))) ?_
    refine rw_p rfl rfl (y_move rfl) ?_
    refine rw_p rfl rfl (y_move rfl) ?_
    refine rw_p rfl rfl (y_move rfl) ?_
    refine rw_p rfl rfl (y_quo rfl rfl (by omega) (divC h2)) ?_
    refine rw_p rfl rfl (y_as (c := true) (y_gt rfl rfl) (decide_eq_true (divT h2 h3))) ?_
    refine rw_p rfl rfl (y_pickF rfl rfl) ?_
    refine rw_p rfl rfl (y_move rfl) ?_
    refine rw_gf rfl rfl (by decide) rfl ?_
    refine rw_gf rfl rfl (by decide) rfl ?_
    refine rw_gf rfl rfl (by decide) rfl ?_
    refine rw_gf rfl rfl (by decide) rfl ?_
    refine rw_gf rfl rfl (by decide) rfl ?_
    refine rw_gf rfl rfl (by decide) rfl ?_
    refine rw_p rfl rfl (y_pickT rfl rfl) ?_
    refine rw_done ?_
    refine gn_sq ?_
    refine HW_condT rfl rfl rfl ?_
    refine HW_seq rfl ?_
    refine HW_text (.pure 0 .done) (by kernel_rfl) ?_
    refine rw_p rfl rfl (y_assign rfl) ?_
    refine rw_done ?_
    refine gn_sq ?_
    refine HW_ret rfl ?_
    refine gr_sq ?_
    refine toR (fin hret rfl (.tmp rfl .nil) .one ?_)
    rw [hBB, if_neg (by rw [hrt]; decide)]
    exact ⟨rfl, hm.to⟩
  ·
    have h0 : 0 ≤ x * y := Int.mul_nonneg (by omega) (by omega)
    have hrt : Pl.right x y BB.length = false := decide_eq_false (by omega)
    refine HW_text (.pure 0 (.pure 1 (.pure 2 (.pure 3 (.pure 4 (.pure 5 (.pure 6 (.pure 7 (.pure 8 (.pure 9 (.pure 10 (.pure 11 (.pure 12 (.pure 13 (.pure 14 (.pure 15 (.pure 16 (.pure 17 .done)))))))))))))))))) (by kernel_rfl) ?_
    refine rw_p rfl rfl (y_move rfl) ?_
    refine rw_p rfl rfl (y_move rfl) ?_
    refine rw_p rfl rfl (y_min rfl rfl) ?_
    refine rw_p rfl rfl (y_as (c := false) (y_lt rfl rfl) (decide_eq_false (by omega))) ?_
    refine rw_p rfl rfl (y_move rfl) ?_
    refine rw_p rfl rfl (y_move rfl) ?_
    refine rw_p rfl rfl (y_move rfl) ?_
    refine rw_p rfl rfl (y_quo rfl rfl (by omega) (divC h2)) ?_
    refine rw_p rfl rfl (y_as (c := false) (y_gt rfl rfl) (decide_eq_false (Int.not_lt.2 (divF h2 h3)))) ?_
    refine rw_p rfl rfl (y_pickF rfl rfl) ?_
    refine rw_p rfl rfl (y_move rfl) ?_
    refine rw_p rfl rfl (y_move rfl) ?_
    refine rw_p rfl rfl (y_len rfl rfl sl46) ?_
    refine rw_p rfl rfl (y_move rfl) ?_
    refine rw_p rfl rfl (y_move rfl) ?_
    refine rw_p rfl rfl (y_mul rfl rfl (i64w (by omega) (by omega))) ?_
    refine rw_p rfl rfl (y_as (c := true) (y_gt rfl rfl) (decide_eq_true (by omega))) ?_
    refine rw_p rfl rfl (y_pickF rfl rfl) ?_
    refine rw_done ?_
    refine gn_sq ?_
    refine HW_condT rfl rfl rfl ?_
    refine HW_seq rfl ?_
    refine HW_text (.pure 0 .done) (by kernel_rfl) ?_
    refine rw_p rfl rfl (y_assign rfl) ?_
    refine rw_done ?_
    refine gn_sq ?_
    refine HW_ret rfl ?_
    refine gr_sq ?_
    refine toR (fin hret rfl (.tmp rfl .nil) .one ?_)
    rw [hBB, if_neg (by rw [hrt]; decide)]
    exact ⟨rfl, hm.to⟩
  ·
    obtain ⟨a, rfl⟩ : ∃ a : Nat, x = a := ⟨x.toNat, by omega⟩
    obtain ⟨c, rfl⟩ : ∃ c : Nat, y = c := ⟨y.toNat, by omega⟩
    have hac : (a : Int) * (c : Int) = ((c * a : Nat) : Int) := by rw [Nat.mul_comm]; norm_cast
    rw [hac] at h3 h4
    have hrt : Pl.right a c BB.length = true := decide_eq_true (by rw [hac]; omega)
    have hMM : IntKind.i64.wrap ((a : Int) * (c : Int)) = ((c * a : Nat) : Int) := by rw [hac]; exact i64w (by omega) (by omega)
    have hca : 1 ≤ c * a := Nat.mul_pos (by omega) (by omega)
    refine HW_text (.pure 0 (.pure 1 (.pure 2 (.pure 3 (.pure 4 (.pure 5 (.pure 6 (.pure 7 (.pure 8 (.pure 9 (.pure 10 (.pure 11 (.pure 12 (.pure 13 (.pure 14 (.pure 15 (.pure 16 (.pure 17 .done)))))))))))))))))) (by kernel_rfl) ?_
    refine rw_p rfl rfl (y_move rfl) ?_
    refine rw_p rfl rfl (y_move rfl) ?_
    refine rw_p rfl rfl (y_min rfl rfl) ?_
    refine rw_p rfl rfl (y_as (c := false) (y_lt rfl rfl) (decide_eq_false (by omega))) ?_
    refine rw_p rfl rfl (y_move rfl) ?_
    refine rw_p rfl rfl (y_move rfl) ?_
    refine rw_p rfl rfl (y_move rfl) ?_
    refine rw_p rfl rfl (y_quo rfl rfl (by omega) (divC h2)) ?_
    refine rw_p rfl rfl (y_as (c := false) (y_gt rfl rfl) (decide_eq_false (Int.not_lt.2 (divF h2 (by rw [hac]; omega))))) ?_
    refine rw_p rfl rfl (y_pickF rfl rfl) ?_
    refine rw_p rfl rfl (y_move rfl) ?_
    refine rw_p rfl rfl (y_move rfl) ?_
    refine rw_p rfl rfl (y_len rfl rfl sl46) ?_
    refine rw_p rfl rfl (y_move rfl) ?_
    refine rw_p rfl rfl (y_move rfl) ?_
    refine rw_p rfl rfl (y_mul rfl rfl hMM) ?_
    refine rw_p rfl rfl (y_as (c := false) (y_gt rfl rfl) (decide_eq_false (by omega))) ?_
    refine rw_p rfl rfl (y_pickF rfl rfl) ?_
    refine rw_done ?_
    refine gn_sq ?_
    refine HW_condF rfl rfl rfl ?_
    refine HW_skip rfl ?_
    refine gn_sq ?_
    refine HW_seq rfl ?_
    refine HW_text (.pure 0 (.pure 1 (.pure 2 (.pure 3 (.act 4 (.pure 5 (.pure 6 (.act 7 (.pure 8 (.act 9 (.pure 10 .done))))))))))) (by kernel_rfl) ?_
    refine rw_p rfl rfl (y_move rfl) ?_
    refine rw_p rfl rfl (y_move rfl) ?_
    refine rw_p rfl rfl (y_move rfl) ?_
    refine rw_p rfl rfl (y_mul rfl rfl hMM) ?_
    refine a_make rfl rfl rfl rfl sl46 z5 rfl (by omega) (by omega) (by omega) hm trivial fun g_b w hg_b ha_b hm hh => ?_
    refine rw_p rfl rfl (y_build (cs := [_, _]) z79 ft79 rfl rfl rfl rfl rfl) ?_
    refine rw_p rfl rfl (y_build (cs := [_, _]) z81 ft81 rfl rfl rfl rfl rfl) ?_
    refine a_makeMap rfl rfl hm trivial fun g w hg_g hm hh => ?_
    refine rw_p rfl rfl (y_build (cs := [_, _, _, _, _, _, _, _, _, _, _, _]) z87 ft87 rfl rfl rfl rfl rfl) ?_
    refine a_box rfl rfl rfl rfl hm trivial fun m1 w hg_m1 hm hh => ?_
    refine rw_p rfl rfl (y_assign rfl) ?_
    refine rw_done ?_
    refine gn_sq ?_
    refine HW_seq rfl ?_
    refine HW_text (.pure 0 (.pure 1 (.pure 2 (.pure 3 (.pure 4 (.pure 5 (.act 6 .done))))))) (by kernel_rfl) ?_
    refine rw_p rfl rfl (y_move rfl) ?_
    refine rw_p rfl rfl (y_nil rfl) ?_
    refine rw_p rfl rfl (y_fieldAddr rfl fo87_0) ?_
    refine rw_p rfl rfl (y_fieldAddr rfl fo79_1) ?_
    refine rw_p rfl rfl (y_load rfl sc46 (hm.nt 0 rfl) rfl) ?_
    refine rw_p rfl rfl (y_move rfl) ?_
    refine a_copyL (o := 0) (src := BB.flatMap encB) rfl rfl (by rw [slp_z (by omega)]; rfl) rfl rfl sl46 (by omega) (ha_s.rd hm 3 rfl) (by rw [lenB]; omega) (oneB _) ha_b hm 2 rfl fun b_b w ha_b hm => ?_
    rw [repB] at ha_b
    replace ha_b := ha_b.to (upds_put' (o := 0) (by rw [List.length_replicate]; omega))
    rw [Pl.put_zero (by omega)] at ha_b
    have hrow : dvV (Pl.nDv a c BB) (some ⟨g_b, 0, none⟩) (c * a) none 0 g = [.int .i64 (a : Int), .slice (some ⟨g_b, 0, none⟩) (c * a) (c * a), .int .i64 (-1), .int .u64 0, .int .i64 0, .int .i64 0, .int .i64 0, .int .i64 0, .int .i64 0, .slice none 0 0, .map (some g), .bool false] := by unfold dvV; rw [Pl.new_len (by omega)]; rfl
    refine rw_done ?_
    refine gn_sq ?_
    refine HW_seq rfl ?_
    refine HW_text (.pure 0 (.pure 1 .done)) (by kernel_rfl) ?_
    refine rw_p rfl rfl (y_move rfl) ?_
    refine rw_p rfl rfl (y_assign rfl) ?_
    refine rw_done ?_
    refine gn_sq ?_
    refine HW_ret rfl ?_
    refine toR (fin hret rfl (.tmp rfl .nil) .one ?_)
    rw [hBB, if_pos hrt, Int.toNat_natCast, Int.toNat_natCast]
    exact ⟨_, _, rfl, DvZ.dev (pb := some ⟨g_b, 0, none⟩) (cb := c * a) (gb := g_b) (bb := b_b) (pc := none) (cc := 0) (gc := 0) (bc := .gap) (gm := g) (es := []) (cs := []) (B := []) 0 ⟨by rw [show (Pl.nDv a c BB).dk.length = c * a from Pl.new_len (by omega)]; exact ha_b, .nil _ _ _ _, rfl, by simp, fun k => rfl, Pl.ok_new (by omega) (by omega) (by omega) (by omega)⟩, by rw [hrow]; exact (hm.gapIn.pick [1, 3, 0, 2] rfl)⟩

end Go.Proofs.Ytibdmklcdllklaa
