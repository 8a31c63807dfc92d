/- Contracts of functions of the program: what each returns. Conditions: the hypotheses of each theorem. -/
import Derived.Test.YtkllojjpaelmhaaDev
set_option linter.unusedVariables false
set_option linter.unusedSimpArgs false
namespace Go.Proofs.Ytkllojjpaelmhaa
open Go Go.Cx

theorem ft75 : fldT Try.prog 75 = some [(0, 1), (1, 1)] := by kernel_rfl
theorem ft79 : fldT Try.prog 79 = some [(0, 2), (2, 2), (4, 5), (9, 1), (10, 1), (11, 1)] := by kernel_rfl
theorem go44 : isGo Try.prog 44 = true := by kernel_rfl
theorem z75 : zer Try.prog 75 = some [.int .i64 0, .slice none 0 0] := by kernel_rfl
theorem z79 : zer Try.prog 79 = some [.int .i64 0, .slice none 0 0, .int .i64 0, .int .u64 0, .int .i64 0, .int .i64 0, .int .i64 0, .int .i64 0, .int .i64 0, .slice none 0 0, .map none, .bool false] := by kernel_rfl
theorem fo55_0 : fldO Try.prog 55 0 = some 0 := by kernel_rfl
theorem fo55_2 : fldO Try.prog 55 2 = some 2 := by kernel_rfl
theorem fo55_3 : fldO Try.prog 55 3 = some 3 := by kernel_rfl
theorem fo55_4 : fldO Try.prog 55 4 = some 4 := by kernel_rfl
theorem fo73_0 : fldO Try.prog 73 0 = some 0 := by kernel_rfl
theorem ft83 : fldT Try.prog 83 = some [(0, 1), (1, 1)] := by kernel_rfl
theorem go36 : isGo Try.prog 36 = true := by kernel_rfl
theorem sz4 : szO Try.prog 4 = some 1 := by kernel_rfl

set_option maxHeartbeats 800000 in
theorem d_new (x y : Int) (q : Option Addr) (cq : Nat) (ps : List SB) (w0 : World) (hq : Rd w0 q (ps.flatMap encS)) (hps : ∀ s ∈ ps, Rd w0 s.p (s.bs.flatMap encB)) (hl : ps.length ≤ 4611686018427387903) (hb : (ps.flatMap (·.bs)).length ≤ 140737488355328) : C Try.prog 28 [.int .i64 x, .int .i64 y, .slice q ps.length cq] w0 fun v w' => if Pl.right x y (ps.flatMap (·.bs)).length = true then ∃ m Z, v = .pointer (some ⟨m, 0, none⟩) ∧ DevZ 79 83 5 (Pl.nDv x.toNat y.toNat (ps.flatMap (·.bs))) m Z ∧ Mem w0 w' No Z else v = .pointer none ∧ Ext No w0 w' := by
  obtain ⟨BB, hBB⟩ : ∃ B9, ps.flatMap (·.bs) = B9 := ⟨_, rfl⟩
  refine C_of Try.func28 rfl rfl rfl fun κ hret hnorm => ?_
  have hm := Mem.start w0
  refine HW_seq rfl ?_
  refine HW_text (.pure 0 .done) (by kernel_rfl) ?_
  refine rw_p rfl rfl (y_assign rfl) ?_
  refine rw_done ?_
  refine gn_sq ?_
  refine HW_seq rfl ?_
  refine HW_text (.pure 0 (.act 1 (.pure 2 .done))) (by kernel_rfl) ?_
  refine rw_p rfl rfl (y_move rfl) ?_
  refine a_call rfl rfl rfl go44 (concat_b q cq ps _ (hq.ext0 hm.to) (fun s hs => (hps s hs).ext0 hm.to) hl hb) fun v w hR => ?_
  obtain ⟨p_s, n_s, cap_s, g_s, b_s, rfl, ha_s, hmc⟩ := hR
  refine ⟨trivial, ?_⟩
  have hns := ha_s.lenB
  replace hm := hm.callN hmc
  rw [hBB] at ha_s hns hb
  refine rw_p rfl rfl (y_assign rfl) ?_
  refine rw_done ?_
  refine gn_sq ?_
  refine HW_seq rfl ?_
  refine HW_seq rfl ?_
  rcases right4 x y BB.length with h | ⟨h1, h2, h3⟩ | ⟨h1, h2, h3, h4⟩ | ⟨h1, h2, h3, h4⟩
  ·
    have hrt : Pl.right x y BB.length = false := decide_eq_false (by omega)
    refine HW_text (.pure 0 (.pure 1 (.pure 2 (.pure 3 (.pure 4 (.pure 5 (.pure 6 (.pure 7 (.pure 8 (.pure 9 (.pure 10 (.pure 11 (.pure 12 (.pure 13 (.pure 14 (.pure 15 (.pure 16 (.pure 17 .done)))))))))))))))))) (by kernel_rfl) ?_
    refine rw_p rfl rfl (y_move rfl) ?_
    refine rw_p rfl rfl (y_move rfl) ?_
    refine rw_p rfl rfl (y_min rfl rfl) ?_
    refine rw_p rfl rfl (y_as (c := true) (y_lt rfl rfl) (decide_eq_true (by omega))) ?_
    refine rw_p rfl rfl (y_move rfl) ?_
    refine rw_gf rfl rfl (by decide) rfl ?_
    refine rw_gf rfl rfl (by decide) rfl ?_
    refine rw_gf rfl rfl (by decide) rfl ?_
    refine rw_gf rfl rfl (by decide) rfl ?_
    refine rw_p rfl rfl (y_pickT rfl rfl) ?_
    refine rw_p rfl rfl (y_move rfl) ?_
    refine rw_gf rfl rfl (by decide) rfl ?_
    refine rw_gf rfl rfl (by decide) rfl ?_
    refine rw_gf rfl rfl (by decide) rfl ?_
    refine rw_gf rfl rfl (by decide) rfl ?_
    refine rw_gf rfl rfl (by decide) rfl ?_
    refine rw_gf rfl rfl (by decide) rfl ?_
    refine rw_p rfl rfl (y_pickT rfl rfl) ?_
    refine rw_done ?_
    refine gn_sq ?_
    refine HW_condT rfl rfl rfl ?_
    refine HW_seq rfl ?_
    refine HW_text (.pure 0 .done) (by kernel_rfl) ?_
    refine rw_p rfl rfl (y_assign rfl) ?_
    refine rw_done ?_
    refine gn_sq ?_
    refine HW_ret rfl ?_
    refine gr_sq ?_
    refine toR (fin hret rfl (.tmp rfl .nil) .one ?_)
    rw [hBB, if_neg (by rw [hrt]; decide)]
    exact ⟨rfl, hm.to⟩
  ·
    have hrt : Pl.right x y BB.length = false := decide_eq_false (by omega)
    refine HW_text (.pure 0 (.pure 1 (.pure 2 (.pure 3 (.pure 4 (.pure 5 (.pure 6 (.pure 7 (.pure 8 (.pure 9 (.pure 10 (.pure 11 (.pure 12 (.pure 13 (.pure 14 (.pure 15 (.pure 16 (.pure 17 .done)))))))))))))))))) (by kernel_rfl) ?_
    refine rw_p rfl rfl (y_move rfl) ?_
    refine rw_p rfl rfl (y_move rfl) ?_
    refine rw_p rfl rfl (y_min rfl rfl) ?_
    refine rw_p rfl rfl (y_as (c := false) (y_lt rfl rfl) (decide_eq_false (by omega))) ?_
    refine rw_p rfl rfl (y_move rfl) ?_
    refine rw_p rfl rfl (y_move rfl) ?_
    refine rw_p rfl rfl (y_move rfl) ?_
    refine rw_p rfl rfl (y_quo rfl rfl (by omega) (divC h2)) ?_
    refine rw_p rfl rfl (y_as (c := true) (y_gt rfl rfl) (decide_eq_true (divT h2 h3))) ?_
    refine rw_p rfl rfl (y_pickF rfl rfl) ?_
    refine rw_p rfl rfl (y_move rfl) ?_
    refine rw_gf rfl rfl (by decide) rfl ?_
    refine rw_gf rfl rfl (by decide) rfl ?_
    refine rw_gf rfl rfl (by decide) rfl ?_
    refine rw_gf rfl rfl (by decide) rfl ?_
    refine rw_gf rfl rfl (by decide) rfl ?_
    refine rw_gf rfl rfl (by decide) rfl ?_
    refine rw_p rfl rfl (y_pickT rfl rfl) ?_
    refine rw_done ?_
    refine gn_sq ?_
    refine HW_condT rfl rfl rfl ?_
    refine HW_seq rfl ?_
    refine HW_text (.pure 0 .done) (by kernel_rfl) ?_
    refine rw_p rfl rfl (y_assign rfl) ?_
    refine rw_done ?_
    refine gn_sq ?_
    refine HW_ret rfl ?_
    refine gr_sq ?_
    refine toR (fin hret rfl (.tmp rfl .nil) .one ?_)
    rw [hBB, if_neg (by rw [hrt]; decide)]
    exact ⟨rfl, hm.to⟩
  ·
    have h0 : 0 ≤ x * y := Int.mul_nonneg (by omega) (by omega)
    have hrt : Pl.right x y BB.length = false := decide_eq_false (by omega)
    refine HW_text (.pure 0 (.pure 1 (.pure 2 (.pure 3 (.pure 4 (.pure 5 (.pure 6 (.pure 7 (.pure 8 (.pure 9 (.pure 10 (.pure 11 (.pure 12 (.pure 13 (.pure 14 (.pure 15 (.pure 16 (.pure 17 .done)))))))))))))))))) (by kernel_rfl) ?_
    refine rw_p rfl rfl (y_move rfl) ?_
    refine rw_p rfl rfl (y_move rfl) ?_
    refine rw_p rfl rfl (y_min rfl rfl) ?_
    refine rw_p rfl rfl (y_as (c := false) (y_lt rfl rfl) (decide_eq_false (by omega))) ?_
    refine rw_p rfl rfl (y_move rfl) ?_
    refine rw_p rfl rfl (y_move rfl) ?_
    refine rw_p rfl rfl (y_move rfl) ?_
    refine rw_p rfl rfl (y_quo rfl rfl (by omega) (divC h2)) ?_
    refine rw_p rfl rfl (y_as (c := false) (y_gt rfl rfl) (decide_eq_false (Int.not_lt.2 (divF h2 h3)))) ?_
    refine rw_p rfl rfl (y_pickF rfl rfl) ?_
    refine rw_p rfl rfl (y_move rfl) ?_
    refine rw_p rfl rfl (y_move rfl) ?_
    refine rw_p rfl rfl (y_len rfl rfl sl27) ?_
    refine rw_p rfl rfl (y_move rfl) ?_
    refine rw_p rfl rfl (y_move rfl) ?_
    refine rw_p rfl rfl (y_mul rfl rfl (i64w (by omega) (by omega))) ?_
    refine rw_p rfl rfl (y_as (c := true) (y_gt rfl rfl) (decide_eq_true (by omega))) ?_
    refine rw_p rfl rfl (y_pickF rfl rfl) ?_
    refine rw_done ?_
    refine gn_sq ?_
    refine HW_condT rfl rfl rfl ?_
    refine HW_seq rfl ?_
    refine HW_text (.pure 0 .done) (by kernel_rfl) ?_
    refine rw_p rfl rfl (y_assign rfl) ?_
    refine rw_done ?_
    refine gn_sq ?_
    refine HW_ret rfl ?_
    refine gr_sq ?_
    refine toR (fin hret rfl (.tmp rfl .nil) .one ?_)
    rw [hBB, if_neg (by rw [hrt]; decide)]
    exact ⟨rfl, hm.to⟩
  ·
    obtain ⟨a, rfl⟩ : ∃ a : Nat, x = a := ⟨x.toNat, by omega⟩
    obtain ⟨c, rfl⟩ : ∃ c : Nat, y = c := ⟨y.toNat, by omega⟩
    have hac : (a : Int) * (c : Int) = ((c * a : Nat) : Int) := by rw [Nat.mul_comm]; norm_cast
    rw [hac] at h3 h4
    have hrt : Pl.right a c BB.length = true := decide_eq_true (by rw [hac]; omega)
    have hMM : IntKind.i64.wrap ((a : Int) * (c : Int)) = ((c * a : Nat) : Int) := by rw [hac]; exact i64w (by omega) (by omega)
    have hca : 1 ≤ c * a := Nat.mul_pos (by omega) (by omega)
    refine HW_text (.pure 0 (.pure 1 (.pure 2 (.pure 3 (.pure 4 (.pure 5 (.pure 6 (.pure 7 (.pure 8 (.pure 9 (.pure 10 (.pure 11 (.pure 12 (.pure 13 (.pure 14 (.pure 15 (.pure 16 (.pure 17 .done)))))))))))))))))) (by kernel_rfl) ?_
    refine rw_p rfl rfl (y_move rfl) ?_
    refine rw_p rfl rfl (y_move rfl) ?_
    refine rw_p rfl rfl (y_min rfl rfl) ?_
    refine rw_p rfl rfl (y_as (c := false) (y_lt rfl rfl) (decide_eq_false (by omega))) ?_
    refine rw_p rfl rfl (y_move rfl) ?_
    refine rw_p rfl rfl (y_move rfl) ?_
    refine rw_p rfl rfl (y_move rfl) ?_
    refine rw_p rfl rfl (y_quo rfl rfl (by omega) (divC h2)) ?_
    refine rw_p rfl rfl (y_as (c := false) (y_gt rfl rfl) (decide_eq_false (Int.not_lt.2 (divF h2 (by rw [hac]; omega))))) ?_
    refine rw_p rfl rfl (y_pickF rfl rfl) ?_
    refine rw_p rfl rfl (y_move rfl) ?_
    refine rw_p rfl rfl (y_move rfl) ?_
    refine rw_p rfl rfl (y_len rfl rfl sl27) ?_
    refine rw_p rfl rfl (y_move rfl) ?_
    refine rw_p rfl rfl (y_move rfl) ?_
    refine rw_p rfl rfl (y_mul rfl rfl hMM) ?_
    refine rw_p rfl rfl (y_as (c := false) (y_gt rfl rfl) (decide_eq_false (by omega))) ?_
    refine rw_p rfl rfl (y_pickF rfl rfl) ?_
    refine rw_done ?_
    refine gn_sq ?_
    refine HW_condF rfl rfl rfl ?_
    refine HW_skip rfl ?_
    refine gn_sq ?_
    refine HW_seq rfl ?_
    refine HW_text (.pure 0 (.pure 1 (.pure 2 (.pure 3 (.act 4 (.pure 5 (.pure 6 (.act 7 (.pure 8 (.act 9 (.pure 10 .done))))))))))) (by kernel_rfl) ?_
    refine rw_p rfl rfl (y_move rfl) ?_
    refine rw_p rfl rfl (y_move rfl) ?_
    refine rw_p rfl rfl (y_move rfl) ?_
    refine rw_p rfl rfl (y_mul rfl rfl hMM) ?_
    refine a_make rfl rfl rfl rfl sl27 z5 rfl (by omega) (by omega) (by omega) hm trivial fun g_b w hg_b ha_b hm hh => ?_
    refine rw_p rfl rfl (y_build (cs := [_, _]) z75 ft75 rfl rfl rfl rfl rfl) ?_
    refine rw_p rfl rfl (y_build (cs := [_, _]) z73 ft73 rfl rfl rfl rfl rfl) ?_
    refine a_makeMap rfl rfl hm trivial fun g w hg_g hm hh => ?_
    refine rw_p rfl rfl (y_build (cs := [_, _, _, _, _, _, _, _, _, _, _, _]) z79 ft79 rfl rfl rfl rfl rfl) ?_
    refine a_box rfl rfl rfl rfl hm trivial fun m1 w hg_m1 hm hh => ?_
    refine rw_p rfl rfl (y_assign rfl) ?_
    refine rw_done ?_
    refine gn_sq ?_
    refine HW_seq rfl ?_
    refine HW_text (.pure 0 (.pure 1 (.pure 2 (.pure 3 (.pure 4 (.pure 5 (.act 6 .done))))))) (by kernel_rfl) ?_
    refine rw_p rfl rfl (y_move rfl) ?_
    refine rw_p rfl rfl (y_nil rfl) ?_
    refine rw_p rfl rfl (y_fieldAddr rfl fo79_0) ?_
    refine rw_p rfl rfl (y_fieldAddr rfl fo75_1) ?_
    refine rw_p rfl rfl (y_load rfl sc27 (hm.nt 0 rfl) rfl) ?_
    refine rw_p rfl rfl (y_move rfl) ?_
    refine a_copyL (o := 0) (src := BB.flatMap encB) rfl rfl (by rw [slp_z (by omega)]; rfl) rfl rfl sl27 (by omega) (ha_s.rd hm 3 rfl) (by rw [lenB]; omega) (oneB _) ha_b hm 2 rfl fun b_b w ha_b hm => ?_
    rw [repB] at ha_b
    replace ha_b := ha_b.to (upds_put' (o := 0) (by rw [List.length_replicate]; omega))
    rw [Pl.put_zero (by omega)] at ha_b
    have hrow : dvV (Pl.nDv a c BB) (some ⟨g_b, 0, none⟩) (c * a) none 0 g = [.int .i64 (a : Int), .slice (some ⟨g_b, 0, none⟩) (c * a) (c * a), .int .i64 (-1), .int .u64 0, .int .i64 0, .int .i64 0, .int .i64 0, .int .i64 0, .int .i64 0, .slice none 0 0, .map (some g), .bool false] := by unfold dvV; rw [Pl.new_len (by omega)]; rfl
    refine rw_done ?_
    refine gn_sq ?_
    refine HW_seq rfl ?_
    refine HW_text (.pure 0 (.pure 1 .done)) (by kernel_rfl) ?_
    refine rw_p rfl rfl (y_move rfl) ?_
    refine rw_p rfl rfl (y_assign rfl) ?_
    refine rw_done ?_
    refine gn_sq ?_
    refine HW_ret rfl ?_
    refine toR (fin hret rfl (.tmp rfl .nil) .one ?_)
    rw [hBB, if_pos hrt, Int.toNat_natCast, Int.toNat_natCast]
    exact ⟨_, _, rfl, DvZ.dev (pb := some ⟨g_b, 0, none⟩) (cb := c * a) (gb := g_b) (bb := b_b) (pc := none) (cc := 0) (gc := 0) (bc := .gap) (gm := g) (es := []) (cs := []) (B := []) 0 ⟨by rw [show (Pl.nDv a c BB).dk.length = c * a from Pl.new_len (by omega)]; exact ha_b, .nil _ _ _ _, rfl, by simp, fun k => rfl, Pl.ok_new (by omega) (by omega) (by omega) (by omega)⟩, by rw [hrow]; exact (hm.gapIn.pick [1, 3, 0, 2] rfl)⟩

set_option maxHeartbeats 1600000 in
theorem d_write (D : Pl.Dv) (m : Nat) (pb : Option Addr) (cb gb : Nat) (bb : Blk) (pc : Option Addr) (cc gc : Nat) (bc : Blk) (gm : Nat) (es : List (Int × Int × Nat)) (ck : Nat) (cs : List PdV) (B : List (Nat × Blk)) (w0 : World) (hZ : OwnZ w0 ((m, .row 79 (dvV D pb cb pc cc gm)) :: (gb, bb) :: (gc, bc) :: (gm, mpB es ck) :: B)) (hz : DvZ 79 83 5 D m pb cb gb bb pc cc gc bc gm es cs B) (q : Option Addr) (cq : Nat) (bs : List UInt8) (i : Int) (hq : Rd w0 q (bs.flatMap encB)) (hqX : bs.flatMap encB ≠ [] → ∀ a, q = some a → ¬ (Mn (reals ((m, .row 79 (dvV D pb cb pc cc gm)) :: (gb, bb) :: (gc, bc) :: (gm, mpB es ck) :: B))) a.block) (hle : bs.length ≤ cq) (hcl : D.ca.length ≤ 1000000000) : C Try.prog 13 [.pointer (some ⟨m, 0, none⟩), .int .i64 i, .slice q bs.length cq] w0 fun v w' => v = .int .i64 (Pl.wCode D i bs) ∧ ∃ Z', DevZ 79 83 5 (Pl.wDv D i bs) m Z' ∧ Mem w0 w' (Mn (reals ((m, .row 79 (dvV D pb cb pc cc gm)) :: (gb, bb) :: (gc, bc) :: (gm, mpB es ck) :: B))) Z' := by
  have hP : w0.heap[m]? = some (Blk.row 79 (dvV D pb cb pc cc gm)).toObj := hZ.get (k := 0) rfl
  have hok := hz.ok
  have o1 := hok.sz
  have o2 := hok.len
  have o3 := hok.cnt
  have o4 := hok.max
  have o5 : D.cnt ≤ D.cnt * D.sz := Nat.le_mul_of_pos_right _ o1
  have o6 := hz.ab.le
  have o7 : D.sz ≤ D.cnt * D.sz := Nat.le_mul_of_pos_left _ o3
  have ha_b := hz.ab
  have ha_c := hz.ac
  have hCl := wr_len hz.cw
  have ow1 := hok.wr
  have hwc : Pl.wCode D i bs = if Pl.codeAt D i ≠ 0 then Pl.codeAt D i else if bs.length ≠ D.sz then 2 else if D.wr = 0 then 18 else 0 := rfl
  refine C_of Try.func13 rfl rfl rfl fun κ hret hnorm => ?_
  have hm := hZ.start
  refine HW_seq rfl ?_
  refine HW_text (.act 0 (.pure 1 .done)) (by kernel_rfl) ?_
  refine a_box rfl rfl rfl rfl hm trivial fun m1 w hg_m1 hm hh => ?_
  refine rw_p rfl rfl (y_assign rfl) ?_
  refine rw_done ?_
  refine gn_sq ?_
  refine HW_seq rfl ?_
  refine HW_seq rfl ?_
  refine HW_text (.pure 0 (.pure 1 (.act 2 (.pure 3 .done)))) (by kernel_rfl) ?_
  refine rw_p rfl rfl (y_load rfl sc30 (hm.nt 0 rfl) rfl) ?_
  refine rw_p rfl rfl (y_move rfl) ?_
  refine a_call rfl rfl rfl go34 (d_check D m pb cb gb bb pc cc gc bc gm es ck cs B _ (hm.pickT [1, 2, 3, 4] 5 rfl).ownZ hz i) fun v w hR => ?_
  obtain ⟨rfl, hE⟩ := hR
  refine ⟨trivial, ?_⟩
  replace hm := hm.ext hE
  refine rw_p rfl rfl (y_assign rfl) ?_
  refine rw_done ?_
  refine gn_sq ?_
  refine HW_seq rfl ?_
  refine HW_text (.pure 0 (.pure 1 .done)) (by kernel_rfl) ?_
  refine rw_p rfl rfl (y_move rfl) ?_
  refine rw_p rfl rfl (y_ne rfl rfl) ?_
  refine rw_done ?_
  refine gn_sq ?_
  refine HW_cond rfl rfl (fun hc0 => ?_) (fun hc0 => ?_)
  ·
    simp only [decide_eq_true_eq] at hc0
    refine HW_seq rfl ?_
    refine HW_text (.pure 0 (.pure 1 .done)) (by kernel_rfl) ?_
    refine rw_p rfl rfl (y_move rfl) ?_
    refine rw_p rfl rfl (y_assign rfl) ?_
    refine rw_done ?_
    refine gn_sq ?_
    refine HW_ret rfl ?_
    refine gr_sq ?_
    refine toR (fin hret rfl (.tmp rfl .nil) .one ?_)
    exact ⟨by rw [hwc, if_pos hc0], _, by rw [Pl.wDv_stop (.inl hc0)]; exact hz.dev ck, (hm.pickT [1, 2, 3, 4] 5 rfl)⟩
  ·
    simp only [decide_eq_false_iff_not, Decidable.not_not] at hc0
    obtain ⟨_, hi0, hi1⟩ := code0 hc0
    refine HW_skip rfl ?_
    refine gn_sq ?_
    refine HW_seq rfl ?_
    refine HW_seq rfl ?_
    refine HW_text (.pure 0 (.pure 1 (.pure 2 (.pure 3 (.pure 4 (.pure 5 (.pure 6 (.pure 7 .done)))))))) (by kernel_rfl) ?_
    refine rw_p rfl rfl (y_move rfl) ?_
    refine rw_p rfl rfl (y_len rfl rfl sl27) ?_
    refine rw_p rfl rfl (y_load rfl sc30 (hm.nt 0 rfl) rfl) ?_
    refine rw_p rfl rfl (y_nil rfl) ?_
    refine rw_p rfl rfl (y_fieldAddr rfl fo79_0) ?_
    refine rw_p rfl rfl (y_fieldAddr rfl fo75_0) ?_
    refine rw_p rfl rfl (y_load rfl sc3 (hm.nt 1 rfl) rfl) ?_
    refine rw_p rfl rfl (y_ne rfl rfl) ?_
    refine rw_done ?_
    refine gn_sq ?_
    refine HW_cond rfl rfl (fun hc1 => ?_) (fun hc1 => ?_)
    ·
      simp only [decide_eq_true_eq] at hc1
      have hbl : bs.length ≠ D.sz := by omega
      refine HW_seq rfl ?_
      refine HW_text (.pure 0 .done) (by kernel_rfl) ?_
      refine rw_p rfl rfl (y_assign rfl) ?_
      refine rw_done ?_
      refine gn_sq ?_
      refine HW_ret rfl ?_
      refine gr_sq ?_
      refine toR (fin hret rfl (.tmp rfl .nil) .one ?_)
      exact ⟨by rw [hwc, if_neg (by omega), if_pos hbl], _, by rw [Pl.wDv_stop (.inr hbl)]; exact hz.dev ck, (hm.pickT [1, 2, 3, 4] 5 rfl)⟩
    ·
      simp only [decide_eq_false_iff_not, Decidable.not_not] at hc1
      have hbl : bs.length = D.sz := by omega
      refine HW_skip rfl ?_
      refine gn_sq ?_
      refine HW_seq rfl ?_
      refine HW_draw (.pure 0 (.pure 1 (.pure 2 (.pure 3 (.pure 4 (.pure 5 (.pure 6 (.pure 7 (.pure 8 (.pure 9 (.cut (.act 10 .done)))))))))))) No mix (by kernel_rfl) hm fun w hw hm0 hh => ?_
      have hm := hm0
      refine rw_p rfl rfl (y_load rfl sc30 (hm0.nd 0 rfl id) rfl) ?_
      refine rw_p rfl rfl (y_nil rfl) ?_
      refine rw_p rfl rfl (y_fieldAddr rfl fo79_4) ?_
      refine rw_p rfl rfl (y_load rfl sc77 (hm0.nd 1 rfl id) rfl) ?_
      refine rw_p rfl rfl (y_move rfl) ?_
      refine rw_p rfl rfl (y_load rfl sc30 (hm0.nd 0 rfl id) rfl) ?_
      refine rw_p rfl rfl (y_nil rfl) ?_
      refine rw_p rfl rfl (y_fieldAddr rfl fo79_3) ?_
      refine rw_p rfl rfl (y_load rfl sc76 (hm0.nd 1 rfl id) rfl) ?_
      refine rw_p rfl rfl (y_len rfl rfl sl76) ?_
      refine a_cut ?_
      refine a_mapUpdate rfl rfl rfl rfl mi77 hm 4 rfl fun ck_g w hm => ?_
      refine rw_done ?_
      refine gn_sq ?_
      refine HW_seq rfl ?_
      refine HW_draw (.pure 0 (.pure 1 (.pure 2 (.pure 3 (.pure 4 (.pure 5 (.pure 6 (.act 7 (.pure 8 (.act 9 (.act 10 (.cut (.pure 11 (.pure 12 (.act 13 .done))))))))))))))) (fun j => (j = gc ∧ bc.real = true)) mix (by kernel_rfl) hm fun w hw hm0 hh => ?_
      have hm := hm0
      refine rw_p rfl rfl (y_load rfl sc30 (hm0.nd 0 rfl (hm0.neR 0 3 rfl rfl rfl)) rfl) ?_
      refine rw_p rfl rfl (y_load rfl sc30 (hm0.nd 0 rfl (hm0.neR 0 3 rfl rfl rfl)) rfl) ?_
      refine rw_p rfl rfl (y_nil rfl) ?_
      refine rw_p rfl rfl (y_fieldAddr rfl fo79_3) ?_
      refine rw_p rfl rfl (y_load rfl sc76 (hm0.nd 1 rfl (hm0.neR 1 3 rfl rfl rfl)) rfl) ?_
      refine rw_p rfl rfl (y_move rfl) ?_
      refine rw_p rfl rfl (y_move rfl) ?_
      refine a_call rfl rfl rfl go35 (clone_b q cq bs _ (hq.extN hm.to hqX) (by omega)) fun v w hR => ?_
      obtain ⟨p_s, cap_s, g_s, b_s, rfl, ha_s, hmc⟩ := hR
      refine ⟨hh.ext hmc.to, ?_⟩
      have hg_s : b_s.real = true → _ := fun hr => (hmc.fresh _ List.mem_cons_self hr).resolve_left id
      replace hh := hh.ext hmc.to
      replace hm := hm.callN hmc
      refine rw_p rfl rfl (y_build (cs := [_, _]) z83 ft83 rfl rfl rfl rfl rfl) ?_
      refine a_buildSlice (l := [_, _]) rfl rfl sl76 z83 rfl rfl rfl rfl rfl rfl rfl hm hh fun m2 w hg_m2 hm hh => ?_
      refine a_appendN rfl rfl rfl rfl rfl rfl sl76 sl76 z83 rfl rfl (Rd.row0 (hm.get (k := 0) rfl)) rfl ha_c hm 5 rfl (by omega) (by omega) hh (fun h => .inr ⟨rfl, h⟩) fun p_c cap_c g_c b_c w _ ha_c hm hh hg_c => ?_
      refine a_cut ?_
      refine rw_p rfl rfl (y_nil rfl) ?_
      refine rw_p rfl rfl (y_fieldAddr rfl fo79_3) ?_
      refine a_store rfl rfl rfl rfl sz76 rfl hm 3 rfl rfl fun w hm => ?_
      have hz2 := hz.add ck hc0 hbl hcl ha_c ha_s
      have hrow2 : ∀ n : Int, dvV { Pl.wAdd D i bs with wr := n } pb cb p_c cap_c gm = [.int .i64 (D.sz : Int), .slice pb D.dk.length cb, .int .i64 n, .int .u64 D.kp, .int .i64 (Pl.inc D.sW), .int .i64 D.sF, .int .i64 D.sC, .int .i64 (max D.sH (i + 1)), .int .i64 (max D.sM (D.ca.length + 1 : Nat)), .slice p_c (D.ca.length + 1) cap_c, .map (some gm), .bool D.dn] := fun n => by unfold dvV Pl.wAdd; simp only [List.length_append, List.length_singleton]
      refine rw_done ?_
      refine gn_sq ?_
      refine HW_seq rfl ?_
      refine HW_text (.pure 0 (.pure 1 (.pure 2 (.pure 3 (.pure 4 (.pure 5 (.pure 6 (.pure 7 (.pure 8 (.act 9 .done)))))))))) (by kernel_rfl) ?_
      refine rw_p rfl rfl (y_load rfl sc30 (hm.nt 2 rfl) rfl) ?_
      refine rw_p rfl rfl (y_nil rfl) ?_
      refine rw_p rfl rfl (y_fieldAddr rfl fo79_2) ?_
      refine rw_p rfl rfl (y_fieldAddr rfl fo55_0) ?_
      refine rw_p rfl rfl (y_load rfl sc3 (hm.nt 3 rfl) rfl) ?_
      refine rw_p rfl rfl (y_add rfl rfl rfl) ?_
      refine rw_p rfl rfl (y_nil rfl) ?_
      refine rw_p rfl rfl (y_fieldAddr rfl fo79_2) ?_
      refine rw_p rfl rfl (y_fieldAddr rfl fo55_0) ?_
      refine a_store rfl rfl rfl rfl sz3 rfl hm 3 rfl rfl fun w hm => ?_
      refine rw_done ?_
      refine gn_sq ?_
      refine HW_seq rfl ?_
      refine HW_draw (.pure 0 (.pure 1 (.pure 2 (.pure 3 (.pure 4 (.pure 5 (.pure 6 (.pure 7 (.pure 8 (.cut (.pure 9 (.pure 10 (.pure 11 (.act 12 .done)))))))))))))) No mix (by kernel_rfl) hm fun w hw hm0 hh => ?_
      have hm := hm0
      refine rw_p rfl rfl (y_load rfl sc30 (hm0.nd 2 rfl id) rfl) ?_
      refine rw_p rfl rfl (y_load rfl sc30 (hm0.nd 2 rfl id) rfl) ?_
      refine rw_p rfl rfl (y_nil rfl) ?_
      refine rw_p rfl rfl (y_fieldAddr rfl fo79_2) ?_
      refine rw_p rfl rfl (y_fieldAddr rfl fo55_3) ?_
      refine rw_p rfl rfl (y_load rfl sc3 (hm0.nd 3 rfl id) rfl) ?_
      refine rw_p rfl rfl (y_move rfl) ?_
      refine rw_p rfl rfl (y_add rfl rfl (i64w (by omega) (by omega))) ?_
      refine rw_p rfl rfl (y_max rfl rfl) ?_
      refine a_cut ?_
      refine rw_p rfl rfl (y_nil rfl) ?_
      refine rw_p rfl rfl (y_fieldAddr rfl fo79_2) ?_
      refine rw_p rfl rfl (y_fieldAddr rfl fo55_3) ?_
      refine a_store rfl rfl rfl rfl sz3 rfl hm 3 rfl rfl fun w hm => ?_
      refine rw_done ?_
      refine gn_sq ?_
      refine HW_seq rfl ?_
      refine HW_draw (.pure 0 (.pure 1 (.pure 2 (.pure 3 (.pure 4 (.pure 5 (.pure 6 (.pure 7 (.pure 8 (.pure 9 (.pure 10 (.pure 11 (.cut (.pure 12 (.pure 13 (.pure 14 (.act 15 .done))))))))))))))))) No mix (by kernel_rfl) hm fun w hw hm0 hh => ?_
      have hm := hm0
      refine rw_p rfl rfl (y_load rfl sc30 (hm0.nd 2 rfl id) rfl) ?_
      refine rw_p rfl rfl (y_load rfl sc30 (hm0.nd 2 rfl id) rfl) ?_
      refine rw_p rfl rfl (y_nil rfl) ?_
      refine rw_p rfl rfl (y_fieldAddr rfl fo79_2) ?_
      refine rw_p rfl rfl (y_fieldAddr rfl fo55_4) ?_
      refine rw_p rfl rfl (y_load rfl sc3 (hm0.nd 3 rfl id) rfl) ?_
      refine rw_p rfl rfl (y_load rfl sc30 (hm0.nd 2 rfl id) rfl) ?_
      refine rw_p rfl rfl (y_nil rfl) ?_
      refine rw_p rfl rfl (y_fieldAddr rfl fo79_3) ?_
      refine rw_p rfl rfl (y_load rfl sc76 (hm0.nd 3 rfl id) rfl) ?_
      refine rw_p rfl rfl (y_len rfl rfl sl76) ?_
      refine rw_p rfl rfl (y_max rfl rfl) ?_
      refine a_cut ?_
      refine rw_p rfl rfl (y_nil rfl) ?_
      refine rw_p rfl rfl (y_fieldAddr rfl fo79_2) ?_
      refine rw_p rfl rfl (y_fieldAddr rfl fo55_4) ?_
      refine a_store rfl rfl rfl rfl sz3 rfl hm 3 rfl rfl fun w hm => ?_
      refine rw_done ?_
      refine gn_sq ?_
      refine HW_seq rfl ?_
      refine HW_seq rfl ?_
      refine HW_text (.pure 0 (.pure 1 (.pure 2 (.pure 3 (.pure 4 (.pure 5 .done)))))) (by kernel_rfl) ?_
      refine rw_p rfl rfl (y_load rfl sc30 (hm.nt 2 rfl) rfl) ?_
      refine rw_p rfl rfl (y_nil rfl) ?_
      refine rw_p rfl rfl (y_fieldAddr rfl fo79_1) ?_
      refine rw_p rfl rfl (y_fieldAddr rfl fo73_0) ?_
      refine rw_p rfl rfl (y_load rfl sc3 (hm.nt 3 rfl) rfl) ?_
      refine rw_p rfl rfl (y_lt rfl rfl) ?_
      refine rw_done ?_
      refine gn_sq ?_
      refine HW_cond rfl rfl (fun hc2 => ?_) (fun hc2 => ?_)
      ·
        simp only [decide_eq_true_eq] at hc2
        refine HW_seq rfl ?_
        refine HW_text (.pure 0 .done) (by kernel_rfl) ?_
        refine rw_p rfl rfl (y_assign rfl) ?_
        refine rw_done ?_
        refine gn_sq ?_
        refine HW_ret rfl ?_
        refine gr_sq ?_
        refine toR (fin hret rfl (.tmp rfl .nil) .one ?_)
        exact ⟨by rw [Pl.wCode_cr hc0 hbl, if_neg (by omega)], _, by rw [Pl.wDv_off hc0 hbl hc2]; exact hz2.dev ck_g, by show Mem _ _ _ ((m, .row _ (dvV { Pl.wAdd D i bs with wr := D.wr } pb cb p_c cap_c gm)) :: _); rw [hrow2]; exact (hm.pickT [3, 4, 5, 6, 1] 7 rfl)⟩
      ·
        simp only [decide_eq_false_iff_not] at hc2
        have hz3 := hz2.as (D2 := { Pl.wAdd D i bs with wr := D.wr - 1 }) rfl rfl (Pl.ok_wr hz2.ok (by omega))
        refine HW_skip rfl ?_
        refine gn_sq ?_
        refine HW_seq rfl ?_
        refine HW_text (.pure 0 (.pure 1 (.pure 2 (.pure 3 (.pure 4 (.pure 5 (.pure 6 (.pure 7 (.pure 8 (.act 9 .done)))))))))) (by kernel_rfl) ?_
        refine rw_p rfl rfl (y_load rfl sc30 (hm.nt 2 rfl) rfl) ?_
        refine rw_p rfl rfl (y_nil rfl) ?_
        refine rw_p rfl rfl (y_fieldAddr rfl fo79_1) ?_
        refine rw_p rfl rfl (y_fieldAddr rfl fo73_0) ?_
        refine rw_p rfl rfl (y_load rfl sc3 (hm.nt 3 rfl) rfl) ?_
        refine rw_p rfl rfl (y_sub rfl rfl (decI (by omega) (by omega))) ?_
        refine rw_p rfl rfl (y_nil rfl) ?_
        refine rw_p rfl rfl (y_fieldAddr rfl fo79_1) ?_
        refine rw_p rfl rfl (y_fieldAddr rfl fo73_0) ?_
        refine a_store rfl rfl rfl rfl sz3 rfl hm 3 rfl rfl fun w hm => ?_
        refine rw_done ?_
        refine gn_sq ?_
        refine HW_seq rfl ?_
        refine HW_seq rfl ?_
        refine HW_text (.pure 0 (.pure 1 (.pure 2 (.pure 3 (.pure 4 (.pure 5 .done)))))) (by kernel_rfl) ?_
        refine rw_p rfl rfl (y_load rfl sc30 (hm.nt 2 rfl) rfl) ?_
        refine rw_p rfl rfl (y_nil rfl) ?_
        refine rw_p rfl rfl (y_fieldAddr rfl fo79_1) ?_
        refine rw_p rfl rfl (y_fieldAddr rfl fo73_0) ?_
        refine rw_p rfl rfl (y_load rfl sc3 (hm.nt 3 rfl) rfl) ?_
        refine rw_p rfl rfl (y_ge rfl rfl) ?_
        refine rw_done ?_
        refine gn_sq ?_
        refine HW_cond rfl rfl (fun hc3 => ?_) (fun hc3 => ?_)
        ·
          simp only [decide_eq_true_eq] at hc3
          refine HW_seq rfl ?_
          refine HW_text (.pure 0 .done) (by kernel_rfl) ?_
          refine rw_p rfl rfl (y_assign rfl) ?_
          refine rw_done ?_
          refine gn_sq ?_
          refine HW_ret rfl ?_
          refine gr_sq ?_
          refine toR (fin hret rfl (.tmp rfl .nil) .one ?_)
          exact ⟨by rw [Pl.wCode_cr hc0 hbl, if_neg (by omega)], _, by rw [Pl.wDv_on hc0 hbl (by omega)]; exact hz3.dev ck_g, by show Mem _ _ _ ((m, .row _ (dvV { Pl.wAdd D i bs with wr := (D.wr - 1) } pb cb p_c cap_c gm)) :: _); rw [hrow2]; exact (hm.pickT [3, 4, 5, 6, 1] 7 rfl)⟩
        ·
          simp only [decide_eq_false_iff_not] at hc3
          have hw0 : D.wr = 0 := by omega
          rw [show D.wr - 1 = -1 by omega] at hz3
          refine HW_skip rfl ?_
          refine gn_sq ?_
          refine HW_seq rfl ?_
          refine HW_text (.pure 0 (.pure 1 (.act 2 .done))) (by kernel_rfl) ?_
          refine rw_p rfl rfl (y_load rfl sc30 (hm.nt 2 rfl) rfl) ?_
          refine rw_p rfl rfl (y_func rfl rfl) ?_
          have hm3 : Mem w0 w (Mn (reals ((m, .row 79 (dvV D pb cb pc cc gm)) :: (gb, bb) :: (gc, bc) :: (gm, mpB es ck) :: B))) ((m1, .row 30 [.pointer (some ⟨m, 0, none⟩)]) :: (m, .row 79 (dvV { Pl.wAdd D i bs with wr := (D.wr - 1) } pb cb p_c cap_c gm)) :: (gb, bb) :: (g_c, b_c) :: (gm, mpB (mpSet es ck i D.ca.length) ck_g) :: (g_s, b_s) :: B) := by rw [hrow2]; exact (hm.pickT [2, 3, 4, 5, 6, 1] 7 rfl)
          rw [show D.wr - 1 = -1 by omega] at hm3
          refine a_call rfl rfl rfl go36 (d_persist { Pl.wAdd D i bs with wr := (-1) } m pb cb gb bb p_c cap_c g_c b_c gm _ ck_g _ _ _ hm3.ownZ.tail hz3 (by show (D.ca ++ [(i.toNat, bs)]).length ≤ _; rw [List.length_append, List.length_singleton]; omega) (Pl.keepB D.kp) _ _ gWt (fun k w1 h9 hE => d_keep m1 _ { Pl.wAdd D i bs with wr := (-1) } m pb cb p_c cap_c gm k w1 ((hE.same m1 (Array.getElem?_eq_some_iff.1 (hm3.get (k := 0) rfl)).1 hm3.notinL).trans (hm3.get (k := 0) rfl)) h9)) fun v w hR => ?_
          obtain ⟨rfl, b9_b, hmc, hz9⟩ := hR
          refine ⟨trivial, ?_⟩
          replace hm := hm3.callZ1 hmc
          refine rw_done ?_
          refine gn_sq ?_
          refine HW_seq rfl ?_
          refine HW_text (.pure 0 (.pure 1 (.pure 2 (.act 3 .done)))) (by kernel_rfl) ?_
          refine rw_p rfl rfl (y_load rfl sc30 (hm.nt 0 rfl) rfl) ?_
          refine rw_p rfl rfl (y_nil rfl) ?_
          refine rw_p rfl rfl (y_fieldAddr rfl fo79_5) ?_
          refine a_store rfl rfl rfl rfl sz4 rfl hm 1 rfl rfl fun w hm => ?_
          refine rw_done ?_
          refine gn_sq ?_
          refine HW_seq rfl ?_
          refine HW_text (.pure 0 (.pure 1 (.pure 2 (.pure 3 (.pure 4 (.pure 5 (.pure 6 (.pure 7 (.pure 8 (.act 9 .done)))))))))) (by kernel_rfl) ?_
          refine rw_p rfl rfl (y_load rfl sc30 (hm.nt 0 rfl) rfl) ?_
          refine rw_p rfl rfl (y_nil rfl) ?_
          refine rw_p rfl rfl (y_fieldAddr rfl fo79_2) ?_
          refine rw_p rfl rfl (y_fieldAddr rfl fo55_2) ?_
          refine rw_p rfl rfl (y_load rfl sc3 (hm.nt 1 rfl) rfl) ?_
          refine rw_p rfl rfl (y_add rfl rfl rfl) ?_
          refine rw_p rfl rfl (y_nil rfl) ?_
          refine rw_p rfl rfl (y_fieldAddr rfl fo79_2) ?_
          refine rw_p rfl rfl (y_fieldAddr rfl fo55_2) ?_
          refine a_store rfl rfl rfl rfl sz3 rfl hm 1 rfl rfl fun w hm => ?_
          refine rw_done ?_
          refine gn_sq ?_
          refine HW_seq rfl ?_
          refine HW_text (.pure 0 .done) (by kernel_rfl) ?_
          refine rw_p rfl rfl (y_assign rfl) ?_
          refine rw_done ?_
          refine gn_sq ?_
          refine HW_ret rfl ?_
          refine toR (fin hret rfl (.tmp rfl .nil) .one ?_)
          exact ⟨by rw [Pl.wCode_cr hc0 hbl, if_pos hw0], _, by rw [Pl.wDv_cr hc0 hbl hw0]; exact (hz9.as (D2 := { Pl.persist { Pl.wAdd D i bs with wr := (-1) } (Pl.keepB D.kp) with dn := true, sC := Pl.inc D.sC }) rfl rfl (by rw [← Pl.wDv_cr hc0 hbl hw0]; exact Pl.ok_write hok hcl)).dev _, (hm.pickT [1, 2, 3, 4] 5 rfl)⟩

theorem o_arm (D : Pl.Dv) (m : Nat) (Z : List (Nat × Blk)) (w0 : World) (hZ : OwnZ w0 Z) (hz : DevZ 79 83 5 D m Z) (n k : Int) (hn : Pl.I64 n) (hk : 0 ≤ k ∧ k ≤ 18446744073709551615) : C Try.prog 12 [.pointer (some ⟨m, 0, none⟩), .int .i64 n, .int .u64 k] w0 fun v w' => v = .tuple ⟨[]⟩ ∧ ∃ Z', DevZ 79 83 5 (Pl.aDv D n k) m Z' ∧ Mem w0 w' (Mn (reals Z)) Z' := by
  obtain ⟨pb, cb, gb, bb, pc, cc, gc, bc, gm, es, ck, cs, B, rfl, hz⟩ := hz
  exact d_arm D m pb cb gb bb pc cc gc bc gm es ck cs B w0 hZ hz n k hn hk

theorem o_write (D : Pl.Dv) (m : Nat) (Z : List (Nat × Blk)) (w0 : World) (hZ : OwnZ w0 Z) (hz : DevZ 79 83 5 D m Z) (q : Option Addr) (cq : Nat) (bs : List UInt8) (i : Int) (hq : Rd w0 q (bs.flatMap encB)) (hqX : bs.flatMap encB ≠ [] → ∀ a, q = some a → ¬ Mn (reals Z) a.block) (hle : bs.length ≤ cq) (hcl : D.ca.length ≤ 1000000000) : C Try.prog 13 [.pointer (some ⟨m, 0, none⟩), .int .i64 i, .slice q bs.length cq] w0 fun v w' => v = .int .i64 (Pl.wCode D i bs) ∧ ∃ Z', DevZ 79 83 5 (Pl.wDv D i bs) m Z' ∧ Mem w0 w' (Mn (reals Z)) Z' := by
  obtain ⟨pb, cb, gb, bb, pc, cc, gc, bc, gm, es, ck, cs, B, rfl, hz⟩ := hz
  exact d_write D m pb cb gb bb pc cc gc bc gm es ck cs B w0 hZ hz q cq bs i hq hqX hle hcl

theorem o_down (D : Pl.Dv) (m : Nat) (Z : List (Nat × Blk)) (w0 : World) (hZ : OwnZ w0 Z) (hz : DevZ 79 83 5 D m Z) : C Try.prog 25 [.pointer (some ⟨m, 0, none⟩)] w0 fun v w' => v = .bool D.dn ∧ Ext No w0 w' := by
  obtain ⟨pb, cb, gb, bb, pc, cc, gc, bc, gm, es, ck, cs, B, rfl, hz⟩ := hz
  exact d_down D m pb cb gb bb pc cc gc bc gm es ck cs B w0 hZ hz

theorem o_size (D : Pl.Dv) (m : Nat) (Z : List (Nat × Blk)) (w0 : World) (hZ : OwnZ w0 Z) (hz : DevZ 79 83 5 D m Z) : C Try.prog 41 [.pointer (some ⟨m, 0, none⟩)] w0 fun v w' => v = .int .i64 (D.sz : Int) ∧ Ext No w0 w' := by
  obtain ⟨pb, cb, gb, bb, pc, cc, gc, bc, gm, es, ck, cs, B, rfl, hz⟩ := hz
  exact d_size D m pb cb gb bb pc cc gc bc gm es ck cs B w0 hZ hz

theorem o_sectors (D : Pl.Dv) (m : Nat) (Z : List (Nat × Blk)) (w0 : World) (hZ : OwnZ w0 Z) (hz : DevZ 79 83 5 D m Z) : C Try.prog 56 [.pointer (some ⟨m, 0, none⟩)] w0 fun v w' => v = .int .i64 (D.cnt : Int) ∧ Ext No w0 w' := by
  obtain ⟨pb, cb, gb, bb, pc, cc, gc, bc, gm, es, ck, cs, B, rfl, hz⟩ := hz
  exact d_sectors D m pb cb gb bb pc cc gc bc gm es ck cs B w0 hZ hz

theorem o_stats (D : Pl.Dv) (m : Nat) (Z : List (Nat × Blk)) (w0 : World) (hZ : OwnZ w0 Z) (hz : DevZ 79 83 5 D m Z) : C Try.prog 22 [.pointer (some ⟨m, 0, none⟩)] w0 fun v w' => v = .agg ⟨[.int .i64 D.sW, .int .i64 D.sF, .int .i64 D.sC, .int .i64 D.sH, .int .i64 D.sM]⟩ ∧ Ext No w0 w' := by
  obtain ⟨pb, cb, gb, bb, pc, cc, gc, bc, gm, es, ck, cs, B, rfl, hz⟩ := hz
  exact d_stats D m pb cb gb bb pc cc gc bc gm es ck cs B w0 hZ hz

theorem o_disk (D : Pl.Dv) (m : Nat) (Z : List (Nat × Blk)) (w0 : World) (hZ : OwnZ w0 Z) (hz : DevZ 79 83 5 D m Z) : C Try.prog 23 [.pointer (some ⟨m, 0, none⟩)] w0 fun v w' => ∃ q c g b, v = .slice q D.dk.length c ∧ Acc 5 1 q (D.dk).length c ((D.dk).flatMap encB) g b ∧ Mem w0 w' No [(g, b)] := by
  obtain ⟨pb, cb, gb, bb, pc, cc, gc, bc, gm, es, ck, cs, B, rfl, hz⟩ := hz
  exact d_disk D m pb cb gb bb pc cc gc bc gm es ck cs B w0 hZ hz

theorem o_read (D : Pl.Dv) (m : Nat) (Z : List (Nat × Blk)) (w0 : World) (hZ : OwnZ w0 Z) (hz : DevZ 79 83 5 D m Z) (i : Int) : C Try.prog 42 [.pointer (some ⟨m, 0, none⟩), .int .i64 i] w0 fun v w' => ∃ q c g b, v = .tuple ⟨[.slice q (if Pl.codeAt D i = 0 then Pl.rdS D i else []).length c, .int .i64 (Pl.codeAt D i)]⟩ ∧ Acc 5 1 q ((if Pl.codeAt D i = 0 then Pl.rdS D i else [])).length c (((if Pl.codeAt D i = 0 then Pl.rdS D i else [])).flatMap encB) g b ∧ Mem w0 w' No [(g, b)] := by
  obtain ⟨pb, cb, gb, bb, pc, cc, gc, bc, gm, es, ck, cs, B, rfl, hz⟩ := hz
  exact d_read D m pb cb gb bb pc cc gc bc gm es ck cs B w0 hZ hz i

theorem o_new (x y : Int) (q : Option Addr) (cq : Nat) (ps : List SB) (w0 : World) (hq : Rd w0 q (ps.flatMap encS)) (hps : ∀ s ∈ ps, Rd w0 s.p (s.bs.flatMap encB)) (hl : ps.length ≤ 4611686018427387903) (hb : (ps.flatMap (·.bs)).length ≤ 140737488355328) (BB : List UInt8) (hBB : ps.flatMap (·.bs) = BB) (hr : Pl.right x y BB.length = true) : C Try.prog 28 [.int .i64 x, .int .i64 y, .slice q ps.length cq] w0 fun v w' => ∃ m Z, v = .pointer (some ⟨m, 0, none⟩) ∧ DevZ 79 83 5 (Pl.nDv x.toNat y.toNat BB) m Z ∧ Mem w0 w' No Z := by
  subst hBB
  exact (d_new x y q cq ps w0 hq hps hl hb).mono fun v w' h => by rw [if_pos hr] at h; exact h

theorem o_newF (x y : Int) (q : Option Addr) (cq : Nat) (ps : List SB) (w0 : World) (hq : Rd w0 q (ps.flatMap encS)) (hps : ∀ s ∈ ps, Rd w0 s.p (s.bs.flatMap encB)) (hl : ps.length ≤ 4611686018427387903) (hb : (ps.flatMap (·.bs)).length ≤ 140737488355328) (hr : Pl.right x y (ps.flatMap (·.bs)).length = false) : C Try.prog 28 [.int .i64 x, .int .i64 y, .slice q ps.length cq] w0 fun v w' => v = .pointer none ∧ Ext No w0 w' := (d_new x y q cq ps w0 hq hps hl hb).mono fun v w' h => by rw [if_neg (by rw [hr]; decide)] at h; exact h

end Go.Proofs.Ytkllojjpaelmhaa
