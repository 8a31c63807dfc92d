/- Contracts of functions of the program: what each returns. Conditions: the hypotheses of each theorem. -/
import Derived.Test.YtibdmklcdllklaaRfA
set_option linter.unusedVariables false
set_option linter.unusedSimpArgs false
namespace Go.Proofs.Ytibdmklcdllklaa
open Go Go.Cx

theorem fo58_2 : fldO Try.prog 58 2 = some 2 := by kernel_rfl
theorem ft58 : fldT Try.prog 58 = some [(0, 1), (1, 1), (2, 1), (3, 1), (4, 1), (5, 1), (6, 1), (7, 1), (8, 1), (9, 1), (10, 1), (11, 1)] := by kernel_rfl
theorem sz46 : szO Try.prog 46 = some 1 := by kernel_rfl
theorem z58 : zer Try.prog 58 = some [.int .i64 0, .int .i64 0, .slice none 0 0, .slice none 0 0, .int .i64 0, .int .u64 0, .bool false, .int .i64 0, .int .i64 0, .int .i64 0, .int .i64 0, .int .i64 0] := by kernel_rfl

set_option maxHeartbeats 800000 in
theorem rf_new (a c : Nat) (q : Option Addr) (cq : Nat) (bs : List UInt8) (w0 : World) (hq : Rd w0 q (bs.flatMap encB)) (h1 : 1 ≤ a) (h2 : 1 ≤ c) (h3 : c * a ≤ 1048576) (h4 : bs.length ≤ c * a) : C Try.prog 34 [.int .i64 (a : Int), .int .i64 (c : Int), .slice q bs.length cq] w0 fun v w' => ∃ m Z, v = .pointer (some ⟨m, 0, none⟩) ∧ RefZ 58 169 5 (Pl.nDv a c bs) m Z ∧ Mem w0 w' No Z := by
  have hMM : IntKind.i64.wrap ((a : Int) * (c : Int)) = ((c * a : Nat) : Int) := by rw [show (a : Int) * (c : Int) = ((c * a : Nat) : Int) by rw [Nat.mul_comm]; norm_cast]; exact i64w (by omega) (by omega)
  refine C_of Try.func34 rfl rfl rfl fun κ hret hnorm => ?_
  have hm := Mem.start w0
  refine HW_seq rfl ?_
  refine HW_text (.pure 0 .done) (by kernel_rfl) ?_
  refine rw_p rfl rfl (y_assign rfl) ?_
  refine rw_done ?_
  refine gn_sq ?_
  refine HW_seq rfl ?_
  refine HW_text (.pure 0 (.pure 1 (.pure 2 (.act 3 (.pure 4 .done))))) (by kernel_rfl) ?_
  refine rw_p rfl rfl (y_move rfl) ?_
  refine rw_p rfl rfl (y_move rfl) ?_
  refine rw_p rfl rfl (y_build (cs := [_, _, _, _, _, _, _, _, _, _, _, _]) z58 ft58 rfl rfl rfl rfl rfl) ?_
  refine a_box rfl rfl rfl rfl hm trivial fun m1 w hg_m1 hm hh => ?_
  refine rw_p rfl rfl (y_assign rfl) ?_
  refine rw_done ?_
  refine gn_sq ?_
  refine HW_seq rfl ?_
  refine HW_text (.pure 0 (.act 1 (.pure 2 (.act 3 (.pure 4 (.pure 5 (.act 6 .done))))))) (by kernel_rfl) ?_
  refine rw_p rfl rfl (y_move rfl) ?_
  refine a_buildSlice (l := []) rfl rfl sl46 z5 rfl rfl rfl rfl rfl rfl rfl hm trivial fun m2 w hg_m2 hm hh => ?_
  refine rw_p rfl rfl (y_move rfl) ?_
  refine a_append rfl rfl rfl rfl rfl rfl sl46 sl46 z5 rfl (oneB bs) (hq.ext0 hm.to) (lenB bs) (Acc.row rfl) hm 0 rfl (by omega) (by omega) fun p_d cap_d g_d b_d w ha_d hm => ?_
  replace ha_d := ha_d.to (show _ = (bs ++ List.replicate 0 0).flatMap encB by rw [List.replicate_zero, List.append_nil]; exact List.nil_append _)
  refine rw_p rfl rfl (y_nil rfl) ?_
  refine rw_p rfl rfl (y_fieldAddr rfl fo58_2) ?_
  refine a_store rfl rfl rfl rfl sz46 rfl hm 1 rfl rfl fun w hm => ?_
  refine rw_done ?_
  refine gn_sq ?_
  refine HW_seq rfl ?_
  refine HW_block rfl ?_
  refine HW_loopK (ι := Nat × Ow) rfl (ks := [0, 1, 6, 7]) (.cons rfl (.cons rfl (.cons rfl (.cons rfl .nil)))) (fun x => []) (fun x w => Mem w0 w No [(m1, .row 58 [.int .i64 (a : Int), .int .i64 (c : Int), .slice x.2.p x.2.n x.2.cap, .slice none 0 0, .int .i64 (-1), .int .u64 0, .bool false, .int .i64 0, .int .i64 0, .int .i64 0, .int .i64 0, .int .i64 0]), (x.2.g, x.2.b)] ∧ Acc 5 1 x.2.p x.2.n x.2.cap ((bs ++ List.replicate x.1 0).flatMap encB) x.2.g x.2.b ∧ bs.length + x.1 ≤ c * a) (fun x => c * a - x.1) (0, ⟨p_d, _, cap_d, g_d, b_d⟩) (⟨(hm.pick [1, 0] rfl), ha_d, by omega⟩) trivial (fun x w hM => ?_)
  obtain ⟨hm, ha_d, hk⟩ := hM
  refine HW_seq rfl ?_
  refine HW_seq rfl ?_
  refine HW_text (.pure 0 (.pure 1 (.pure 2 (.pure 3 (.pure 4 (.pure 5 (.pure 6 (.pure 7 (.pure 8 .done))))))))) (by kernel_rfl) ?_
  refine rw_p rfl rfl (y_move rfl) ?_
  refine rw_p rfl rfl (y_nil rfl) ?_
  refine rw_p rfl rfl (y_fieldAddr rfl fo58_2) ?_
  refine rw_p rfl rfl (y_load rfl sc46 (hm.nt 0 rfl) rfl) ?_
  refine rw_p rfl rfl (y_len rfl rfl sl46) ?_
  refine rw_p rfl rfl (y_move rfl) ?_
  refine rw_p rfl rfl (y_move rfl) ?_
  refine rw_p rfl rfl (y_mul rfl rfl hMM) ?_
  refine rw_p rfl rfl (y_lt rfl rfl) ?_
  refine rw_done ?_
  refine gn_sq ?_
  refine HW_cond rfl rfl (fun hc0 => ?_) (fun hc0 => ?_)
  ·
    have hn9 := ha_d.lenB
    rw [List.length_append, List.length_replicate] at hn9
    simp only [decide_eq_true_eq] at hc0
    refine HW_skip rfl ?_
    refine gn_sq ?_
    refine HW_block rfl ?_
    refine HW_text (.pure 0 (.pure 1 (.pure 2 (.pure 3 (.pure 4 (.act 5 (.act 6 (.pure 7 (.pure 8 (.act 9 .done)))))))))) (by kernel_rfl) ?_
    refine rw_p rfl rfl (y_move rfl) ?_
    refine rw_p rfl rfl (y_move rfl) ?_
    refine rw_p rfl rfl (y_nil rfl) ?_
    refine rw_p rfl rfl (y_fieldAddr rfl fo58_2) ?_
    refine rw_p rfl rfl (y_load rfl sc46 (hm.nt 0 rfl) rfl) ?_
    refine a_buildSlice (l := [_]) rfl rfl sl46 z5 rfl rfl rfl rfl rfl rfl rfl hm trivial fun m3 w hg_m3 hm hh => ?_
    refine a_append rfl rfl rfl rfl rfl rfl sl46 sl46 z5 rfl rfl (Rd.row0 (hm.get (k := 0) rfl)) rfl ha_d hm 2 rfl (by omega) (by omega) fun p_d cap_d g_d b_d w ha_d hm => ?_
    refine rw_p rfl rfl (y_nil rfl) ?_
    refine rw_p rfl rfl (y_fieldAddr rfl fo58_2) ?_
    refine a_store rfl rfl rfl rfl sz46 rfl hm 1 rfl rfl fun w hm => ?_
    refine rw_done ?_
    refine gn_bl ?_
    refine next (x.1 + 1, ⟨p_d, _, cap_d, g_d, b_d⟩) (by simp only; omega) ⟨(hm.pick [1, 2] rfl), ha_d.to ?_, by simp only; omega⟩ ⟨rfl, rfl, rfl, rfl, trivial⟩
    simp only [List.replicate_succ', List.flatMap_append, List.append_assoc]
    rfl
  ·
    have hn9 := ha_d.lenB
    have hn8 := hn9
    rw [List.length_append, List.length_replicate] at hn8
    simp only [decide_eq_false_iff_not] at hc0
    have hke : x.1 = c * a - bs.length := by omega
    rw [hke] at ha_d
    have hdk : (Pl.nDv a c bs).dk = bs ++ List.replicate (c * a - bs.length) 0 := rfl
    have hdl : (Pl.nDv a c bs).dk.length = x.2.n := by rw [Pl.new_len h4]; omega
    have hrow : rfV (Pl.nDv a c bs) x.2.p x.2.cap none 0 = [.int .i64 (a : Int), .int .i64 (c : Int), .slice x.2.p x.2.n x.2.cap, .slice none 0 0, .int .i64 (-1), .int .u64 0, .bool false, .int .i64 0, .int .i64 0, .int .i64 0, .int .i64 0, .int .i64 0] := by unfold rfV; rw [hdl]; rfl
    refine HW_exit rfl ?_
    refine gx_sq (gx_lp ?_)
    refine gx_here ?_
    refine gn_sq ?_
    refine HW_seq rfl ?_
    refine HW_text (.pure 0 (.pure 1 .done)) (by kernel_rfl) ?_
    refine rw_p rfl rfl (y_move rfl) ?_
    refine rw_p rfl rfl (y_assign rfl) ?_
    refine rw_done ?_
    refine gn_sq ?_
    refine HW_ret rfl ?_
    refine toR (fin hret rfl (.tmp rfl .nil) .one ?_)
    exact ⟨_, _, rfl, ref_mk (D := Pl.nDv a c bs) (pb := x.2.p) (cb := x.2.cap) (pc := none) (cc := 0) (cs := []) (B := [(0, .gap), (x.2.g, x.2.b)]) ⟨x.2.g, x.2.b, by simp, by rw [hdl]; exact ha_d⟩ (heldP_nil _ _ (by simp)) rfl (Pl.ok_new h1 h2 h3 h4), by rw [hrow]; exact (hm.gapIn.pick [1, 0, 2] rfl)⟩

end Go.Proofs.Ytibdmklcdllklaa
