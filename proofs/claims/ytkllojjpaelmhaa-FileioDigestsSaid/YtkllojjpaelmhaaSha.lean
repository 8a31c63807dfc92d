/- Contracts of functions of the program: what each returns. Conditions: the hypotheses of each theorem. -/
import Derived.Test.YtkllojjpaelmhaaChecked
import Derived.Test.YtkllojjpaelmhaaCyB
import Derived.Test.YtkllojjpaelmhaaByt
set_option linter.unusedVariables false
set_option linter.unusedSimpArgs false
namespace Go.Proofs.Ytkllojjpaelmhaa
open Go Go.Cx

theorem is3 : (Try.prog.underlying 3).isSome = true := by kernel_rfl
theorem it133 : intO Try.prog 133 = some .u64 := by kernel_rfl
theorem ag138 : aggS Try.prog 138 = some 64 := by kernel_rfl
theorem ft138 : fldT Try.prog 138 = some [(0, 1), (1, 1), (2, 1), (3, 1), (4, 1), (5, 1), (6, 1), (7, 1), (8, 1), (9, 1), (10, 1), (11, 1), (12, 1), (13, 1), (14, 1), (15, 1), (16, 1), (17, 1), (18, 1), (19, 1), (20, 1), (21, 1), (22, 1), (23, 1), (24, 1), (25, 1), (26, 1), (27, 1), (28, 1), (29, 1), (30, 1), (31, 1), (32, 1), (33, 1), (34, 1), (35, 1), (36, 1), (37, 1), (38, 1), (39, 1), (40, 1), (41, 1), (42, 1), (43, 1), (44, 1), (45, 1), (46, 1), (47, 1), (48, 1), (49, 1), (50, 1), (51, 1), (52, 1), (53, 1), (54, 1), (55, 1), (56, 1), (57, 1), (58, 1), (59, 1), (60, 1), (61, 1), (62, 1), (63, 1)] := by kernel_rfl
theorem sz138 : szO Try.prog 138 = some 64 := by kernel_rfl
theorem z138 : zer Try.prog 138 = some [.int .u32 0, .int .u32 0, .int .u32 0, .int .u32 0, .int .u32 0, .int .u32 0, .int .u32 0, .int .u32 0, .int .u32 0, .int .u32 0, .int .u32 0, .int .u32 0, .int .u32 0, .int .u32 0, .int .u32 0, .int .u32 0, .int .u32 0, .int .u32 0, .int .u32 0, .int .u32 0, .int .u32 0, .int .u32 0, .int .u32 0, .int .u32 0, .int .u32 0, .int .u32 0, .int .u32 0, .int .u32 0, .int .u32 0, .int .u32 0, .int .u32 0, .int .u32 0, .int .u32 0, .int .u32 0, .int .u32 0, .int .u32 0, .int .u32 0, .int .u32 0, .int .u32 0, .int .u32 0, .int .u32 0, .int .u32 0, .int .u32 0, .int .u32 0, .int .u32 0, .int .u32 0, .int .u32 0, .int .u32 0, .int .u32 0, .int .u32 0, .int .u32 0, .int .u32 0, .int .u32 0, .int .u32 0, .int .u32 0, .int .u32 0, .int .u32 0, .int .u32 0, .int .u32 0, .int .u32 0, .int .u32 0, .int .u32 0, .int .u32 0, .int .u32 0] := by kernel_rfl
theorem ag116 : aggS Try.prog 116 = some 8 := by kernel_rfl
theorem ar116 : arrO Try.prog 116 = some (8, 115, 1) := by kernel_rfl
theorem ar137 : arrO Try.prog 137 = some (16, 115, 1) := by kernel_rfl
theorem ar138 : arrO Try.prog 138 = some (64, 115, 1) := by kernel_rfl
theorem fo118_0 : fldO Try.prog 118 0 = some 0 := by kernel_rfl
theorem go75 : isGo Try.prog 75 = true := by kernel_rfl
theorem go76 : isGo Try.prog 76 = true := by kernel_rfl
theorem is5 : (Try.prog.underlying 5).isSome = true := by kernel_rfl
theorem it115 : intO Try.prog 115 = some .u32 := by kernel_rfl
theorem sc115 : scal Try.prog 115 = true := by kernel_rfl
theorem sl105 : slcO Try.prog 105 = some (115, 1, 4) := by kernel_rfl
theorem sz115 : szO Try.prog 115 = some 1 := by kernel_rfl
theorem sz116 : szO Try.prog 116 = some 8 := by kernel_rfl
theorem z116 : zer Try.prog 116 = some [.int .u32 0, .int .u32 0, .int .u32 0, .int .u32 0, .int .u32 0, .int .u32 0, .int .u32 0, .int .u32 0] := by kernel_rfl
theorem z137 : zer Try.prog 137 = some [.int .u32 0, .int .u32 0, .int .u32 0, .int .u32 0, .int .u32 0, .int .u32 0, .int .u32 0, .int .u32 0, .int .u32 0, .int .u32 0, .int .u32 0, .int .u32 0, .int .u32 0, .int .u32 0, .int .u32 0, .int .u32 0] := by kernel_rfl
theorem fo118_1 : fldO Try.prog 118 1 = some 8 := by kernel_rfl
theorem fo118_2 : fldO Try.prog 118 2 = some 9 := by kernel_rfl
theorem go71 : isGo Try.prog 71 = true := by kernel_rfl
theorem sc27 : scal Try.prog 27 = true := by kernel_rfl
theorem sz27 : szO Try.prog 27 = some 1 := by kernel_rfl
theorem ag118 : aggS Try.prog 118 = some 10 := by kernel_rfl
theorem ft116 : fldT Try.prog 116 = some [(0, 1), (1, 1), (2, 1), (3, 1), (4, 1), (5, 1), (6, 1), (7, 1)] := by kernel_rfl
theorem ft118 : fldT Try.prog 118 = some [(0, 8), (8, 1), (9, 1)] := by kernel_rfl
theorem sz118 : szO Try.prog 118 = some 10 := by kernel_rfl
theorem z118 : zer Try.prog 118 = some [.int .u32 0, .int .u32 0, .int .u32 0, .int .u32 0, .int .u32 0, .int .u32 0, .int .u32 0, .int .u32 0, .slice none 0 0, .int .i64 0] := by kernel_rfl
theorem go35 : isGo Try.prog 35 = true := by kernel_rfl
theorem ag62 : aggS Try.prog 62 = some 32 := by kernel_rfl
theorem ar62 : arrO Try.prog 62 = some (32, 5, 1) := by kernel_rfl
theorem go62 : isGo Try.prog 62 = true := by kernel_rfl
theorem is115 : (Try.prog.underlying 115).isSome = true := by kernel_rfl
theorem is35 : (Try.prog.underlying 35).isSome = true := by kernel_rfl
theorem it3 : intO Try.prog 3 = some .i64 := by kernel_rfl
theorem it35 : intO Try.prog 35 = some .u64 := by kernel_rfl
theorem it5 : intO Try.prog 5 = some .u8 := by kernel_rfl
theorem sz62 : szO Try.prog 62 = some 32 := by kernel_rfl
theorem z62 : zer Try.prog 62 = some [.int .u8 0, .int .u8 0, .int .u8 0, .int .u8 0, .int .u8 0, .int .u8 0, .int .u8 0, .int .u8 0, .int .u8 0, .int .u8 0, .int .u8 0, .int .u8 0, .int .u8 0, .int .u8 0, .int .u8 0, .int .u8 0, .int .u8 0, .int .u8 0, .int .u8 0, .int .u8 0, .int .u8 0, .int .u8 0, .int .u8 0, .int .u8 0, .int .u8 0, .int .u8 0, .int .u8 0, .int .u8 0, .int .u8 0, .int .u8 0, .int .u8 0, .int .u8 0] := by kernel_rfl
theorem sz5 : szO Try.prog 5 = some 1 := by kernel_rfl
theorem ft121 : fldT Try.prog 121 = some [(0, 10)] := by kernel_rfl
theorem go60 : isGo Try.prog 60 = true := by kernel_rfl
theorem z121 : zer Try.prog 121 = some [.int .u32 0, .int .u32 0, .int .u32 0, .int .u32 0, .int .u32 0, .int .u32 0, .int .u32 0, .int .u32 0, .slice none 0 0, .int .i64 0] := by kernel_rfl
theorem fo121_0 : fldO Try.prog 121 0 = some 0 := by kernel_rfl
theorem pb99 : ptrB Try.prog 99 = true := by kernel_rfl
theorem sl96 : slcO Try.prog 96 = some (27, 1, 24) := by kernel_rfl
theorem go63 : isGo Try.prog 63 = true := by kernel_rfl
theorem go64 : isGo Try.prog 64 = true := by kernel_rfl
theorem ft62 : fldT Try.prog 62 = some [(0, 1), (1, 1), (2, 1), (3, 1), (4, 1), (5, 1), (6, 1), (7, 1), (8, 1), (9, 1), (10, 1), (11, 1), (12, 1), (13, 1), (14, 1), (15, 1), (16, 1), (17, 1), (18, 1), (19, 1), (20, 1), (21, 1), (22, 1), (23, 1), (24, 1), (25, 1), (26, 1), (27, 1), (28, 1), (29, 1), (30, 1), (31, 1)] := by kernel_rfl

theorem m_rotl (x : UInt32) (j : Nat) (w0 : World) (h1 : 1 ≤ j) (h2 : j < 32) : C Try.prog 76 [.int .u32 ((x).toNat : Int), .int .i64 (-(j : Int))] w0 fun v w' => v = .int .u32 ((Pl.rotr x (UInt32.ofNat j)).toNat : Int) ∧ Ext No w0 w' := by
  refine C_of Try.func76 rfl rfl rfl fun κ hret hnorm => ?_
  have hm := Mem.start w0
  refine HW_seq rfl ?_
  refine HW_text (.pure 0 .done) (by kernel_rfl) ?_
  refine rw_p rfl rfl (y_assign (cW 0 rfl)) ?_
  refine rw_done ?_
  refine gn_sq ?_
  refine HW_seq rfl ?_
  refine HW_text (.pure 0 (.pure 1 (.pure 2 (.pure 3 .done)))) (by kernel_rfl) ?_
  refine rw_p rfl rfl (y_move rfl) ?_
  refine rw_p rfl rfl (y_conv rfl is3 it133 rfl) ?_
  refine rw_p rfl rfl (y_and_ rfl rfl (rot_k h1 h2)) ?_
  refine rw_p rfl rfl (y_assign rfl) ?_
  refine rw_done ?_
  refine gn_sq ?_
  refine HW_seq rfl ?_
  refine HW_text (.pure 0 (.pure 1 (.pure 2 (.pure 3 (.pure 4 (.pure 5 (.pure 6 (.pure 7 (.pure 8 .done))))))))) (by kernel_rfl) ?_
  refine rw_p rfl rfl (y_move rfl) ?_
  refine rw_p rfl rfl (y_move rfl) ?_
  refine rw_p rfl rfl (y_shl rfl rfl (by omega) (w_shl (UInt32.ofNat (32 - j)) (by rw [oN (by omega)]) (by rw [oN (by omega)]; omega))) ?_
  refine rw_p rfl rfl (y_move rfl) ?_
  refine rw_p rfl rfl (y_move rfl) ?_
  refine rw_p rfl rfl (y_sub rfl rfl (u_sub (a := 32) (by omega) (by decide))) ?_
  refine rw_p rfl rfl (y_shr rfl rfl (by omega) (w_shr (UInt32.ofNat j) (by rw [oN h2]; omega) (by rw [oN h2]; omega))) ?_
  refine rw_p rfl rfl (y_or_ rfl rfl w_or) ?_
  refine rw_p rfl rfl (y_assign rfl) ?_
  refine rw_done ?_
  refine gn_sq ?_
  refine HW_ret rfl ?_
  refine toR (fin hret rfl (.tmp rfl .nil) .one ?_)
  exact ⟨by rw [← rot_eq x h1 h2], hm.to⟩

theorem h_keys (w0 : World) : C Try.prog 75 [] w0 fun v w' => v = .agg ⟨Pl.shK.flatMap encW⟩ ∧ Ext No w0 w' := by
  refine C_of Try.func75 rfl rfl rfl fun κ hret hnorm => ?_
  have hm := Mem.start w0
  refine HW_seq rfl ?_
  refine HW_text (.act 0 .done) (by kernel_rfl) ?_
  refine a_alloc rfl rfl z138 hm trivial fun m1 w hg_m1 hm hh => ?_
  refine rw_done ?_
  refine gn_sq ?_
  refine HW_seq rfl ?_
  refine HW_text (.pure 0 (.act 1 .done)) (by kernel_rfl) ?_
  refine rw_p rfl rfl (y_build (cs := [_, _, _, _, _, _, _, _, _, _, _, _, _, _, _, _, _, _, _, _, _, _, _, _, _, _, _, _, _, _, _, _, _, _, _, _, _, _, _, _, _, _, _, _, _, _, _, _, _, _, _, _, _, _, _, _, _, _, _, _, _, _, _, _]) z138 ft138 rfl rfl rfl rfl rfl) ?_
  refine a_store rfl rfl rfl rfl sz138 rfl hm 0 rfl rfl fun w hm => ?_
  refine rw_done ?_
  refine gn_sq ?_
  refine HW_ret rfl ?_
  refine toR (fin hret rfl (.cell rfl (run_loadVar_a (vs := [_, _, _, _, _, _, _, _, _, _, _, _, _, _, _, _, _, _, _, _, _, _, _, _, _, _, _, _, _, _, _, _, _, _, _, _, _, _, _, _, _, _, _, _, _, _, _, _, _, _, _, _, _, _, _, _, _, _, _, _, _, _, _, _]) ag138 (hm.get (k := 0) rfl) rfl) .nil) .one ?_)
  exact ⟨rfl, hm.to⟩

set_option maxHeartbeats 3200000 in
set_option maxRecDepth 100000 in
theorem h_block (TT m : Nat) (s : Pl.S8) (rv : Value) (n : Int) (p : Option Addr) (cap : Nat) (bs : List UInt8) (w0 : World) (hP : w0.heap[m]? = some (Blk.row TT (stV s rv n)).toObj) (hx : Rd w0 p (bs.flatMap encB)) (hap : bs.flatMap encB ≠ [] → ∀ ad, p = some ad → ¬ (ad.block = m)) (hl : bs.length = 64) : C Try.prog 71 [.pointer (some ⟨m, 0, none⟩), .slice p 64 cap] w0 fun v w' => v = .tuple ⟨[]⟩ ∧ Mem w0 w' (fun k => k = m) [(m, .row TT (stV (Pl.shBlock s bs) rv n))] := by
  obtain ⟨x0_, hx0_⟩ : ∃ y_, bs[0]? = some y_ := ⟨_, List.getElem?_eq_getElem (by omega)⟩
  obtain ⟨b2, o2, hp4⟩ := hx.atI encB_len (by decide) hx0_
  refine C_of Try.func71 rfl rfl rfl fun κ hret hnorm => ?_
  have hm := Mem.start1 hP
  refine HW_seq rfl ?_
  refine HW_text (.act 0 .done) (by kernel_rfl) ?_
  refine a_alloc rfl rfl z137 hm trivial fun m1 w hg_m1 hm hh => ?_
  refine rw_done ?_
  refine gn_sq ?_
  refine HW_seq rfl ?_
  refine HW_seq rfl ?_
  refine HW_text (.pure 0 .done) (by kernel_rfl) ?_
  refine rw_p rfl rfl (y_move rfl) ?_
  refine rw_done ?_
  refine gn_sq ?_
  refine HW_block rfl ?_
  refine HW_loopK (ι := Nat) rfl (ks := [0, 1, 4]) (.cons rfl (.cons rfl (.cons rfl .nil))) (fun x => [(21, .int .i64 x)]) (fun x w => Mem w0 w (fun k => k = m) [(m1, .row 137 ((Pl.wordsB bs x ++ List.replicate (16 - x) 0).flatMap encW)), (m, (.row TT (stV s rv n)))] ∧ x ≤ 16) (fun x => 16 - x) 0 (⟨hm, Nat.zero_le _⟩) ⟨rfl, trivial⟩ (fun x w hM => ?_)
  obtain ⟨hm, hk⟩ := hM
  refine HW_seq rfl ?_
  refine HW_text (.pure 0 .done) (by kernel_rfl) ?_
  refine rw_p rfl rfl (y_lt rfl rfl) ?_
  refine rw_done ?_
  refine gn_sq ?_
  refine HW_seq rfl ?_
  refine HW_cond rfl rfl (fun hc0 => ?_) (fun hc0 => ?_)
  ·
    simp only [decide_eq_true_eq] at hc0
    obtain ⟨c0, hi0⟩ : ∃ y_, bs[4 * x + 0]? = some y_ := ⟨_, List.getElem?_eq_getElem (by omega)⟩
    obtain ⟨c1, hi1⟩ : ∃ y_, bs[4 * x + 1]? = some y_ := ⟨_, List.getElem?_eq_getElem (by omega)⟩
    obtain ⟨c2, hi2⟩ : ∃ y_, bs[4 * x + 2]? = some y_ := ⟨_, List.getElem?_eq_getElem (by omega)⟩
    obtain ⟨c3, hi3⟩ : ∃ y_, bs[4 * x + 3]? = some y_ := ⟨_, List.getElem?_eq_getElem (by omega)⟩
    have hwb : Pl.wordB bs x = Pl.be4 c0 c1 c2 c3 := by unfold Pl.wordB; simp only [List.getD_eq_getElem?_getD, hi1, hi2, hi3, show bs[4 * x]? = some c0 from hi0, Option.getD_some]
    refine HW_skip rfl ?_
    refine gn_sq ?_
    refine HW_seq rfl ?_
    refine HW_block rfl ?_
    refine HW_seq rfl ?_
    refine HW_text (.pure 0 (.pure 1 .done)) (by kernel_rfl) ?_
    refine rw_p rfl rfl (y_move rfl) ?_
    refine rw_p rfl rfl (y_assign rfl) ?_
    refine rw_done ?_
    refine gn_sq ?_
    refine HW_draw (.pure 0 (.pure 1 (.pure 2 (.pure 3 (.pure 4 (.pure 5 (.pure 6 (.pure 7 (.pure 8 (.pure 9 (.pure 10 (.pure 11 (.pure 12 (.pure 13 (.pure 14 (.pure 15 (.pure 16 (.pure 17 (.pure 18 (.pure 19 (.pure 20 (.pure 21 (.pure 22 (.pure 23 (.pure 24 (.pure 25 (.pure 26 (.pure 27 (.pure 28 (.pure 29 (.pure 30 (.pure 31 (.pure 32 (.cut (.pure 33 (.pure 34 (.act 35 .done))))))))))))))))))))))))))))))))))))) No mix (by kernel_rfl) hm fun w hw hm0 hh => ?_
    have hm := hm0
    refine rw_p rfl rfl (y_move rfl) ?_
    refine rw_p rfl rfl (y_move rfl) ?_
    refine rw_p rfl rfl (y_move rfl) ?_
    refine rw_p rfl rfl (y_mul rfl rfl (mulK 4 (by omega))) ?_
    refine rw_p rfl rfl (y_index rfl rfl sl27 hp4 (by omega) (by omega)) ?_
    refine rw_p rfl rfl (y_el1 rfl sc5 (hp4 ▸ hx.extN hm0.to hap).nd encB_len hi0 rfl) ?_
    refine rw_p rfl rfl (y_conv rfl is5 it115 w_of8) ?_
    refine rw_p rfl rfl (y_shl rfl rfl (by decide) (w_shl 24 rfl (by decide))) ?_
    refine rw_p rfl rfl (y_move rfl) ?_
    refine rw_p rfl rfl (y_move rfl) ?_
    refine rw_p rfl rfl (y_mul rfl rfl (mulK 4 (by omega))) ?_
    refine rw_p rfl rfl (y_add rfl rfl (addK 1 (by omega))) ?_
    refine rw_p rfl rfl (y_index rfl rfl sl27 hp4 (by omega) (by omega)) ?_
    refine rw_p rfl rfl (y_el1 rfl sc5 (hp4 ▸ hx.extN hm0.to hap).nd encB_len hi1 rfl) ?_
    refine rw_p rfl rfl (y_conv rfl is5 it115 w_of8) ?_
    refine rw_p rfl rfl (y_shl rfl rfl (by decide) (w_shl 16 rfl (by decide))) ?_
    refine rw_p rfl rfl (y_or_ rfl rfl w_or) ?_
    refine rw_p rfl rfl (y_move rfl) ?_
    refine rw_p rfl rfl (y_move rfl) ?_
    refine rw_p rfl rfl (y_mul rfl rfl (mulK 4 (by omega))) ?_
    refine rw_p rfl rfl (y_add rfl rfl (addK 2 (by omega))) ?_
    refine rw_p rfl rfl (y_index rfl rfl sl27 hp4 (by omega) (by omega)) ?_
    refine rw_p rfl rfl (y_el1 rfl sc5 (hp4 ▸ hx.extN hm0.to hap).nd encB_len hi2 rfl) ?_
    refine rw_p rfl rfl (y_conv rfl is5 it115 w_of8) ?_
    refine rw_p rfl rfl (y_shl rfl rfl (by decide) (w_shl 8 rfl (by decide))) ?_
    refine rw_p rfl rfl (y_or_ rfl rfl w_or) ?_
    refine rw_p rfl rfl (y_move rfl) ?_
    refine rw_p rfl rfl (y_move rfl) ?_
    refine rw_p rfl rfl (y_mul rfl rfl (mulK 4 (by omega))) ?_
    refine rw_p rfl rfl (y_add rfl rfl (addK 3 (by omega))) ?_
    refine rw_p rfl rfl (y_index rfl rfl sl27 hp4 (by omega) (by omega)) ?_
    refine rw_p rfl rfl (y_el1 rfl sc5 (hp4 ▸ hx.extN hm0.to hap).nd encB_len hi3 rfl) ?_
    refine rw_p rfl rfl (y_conv rfl is5 it115 w_of8) ?_
    refine a_cut ?_
    refine rw_p rfl rfl (y_or_ rfl rfl w_or) ?_
    refine rw_p rfl rfl (y_indexP rfl rfl ar137 (by omega) (by omega)) ?_
    refine a_store rfl rfl rfl rfl sz115 rfl hm 0 rfl (by rw [Nat.ble_eq, lenW, List.length_append, Pl.wordsB_len, List.length_replicate]; simp only [List.length_singleton]; omega) fun w hm => ?_
    have hm2 : Mem w0 w (fun k => k = m) [(m1, .row 137 (upds ((Pl.wordsB bs x ++ List.replicate (16 - x) 0).flatMap encW) (0 + x * 1) [.int .u32 ((Pl.be4 c0 c1 c2 c3).toNat : Int)])), (m, (.row TT (stV s rv n)))] := hm
    rw [setW, fill_next (Pl.wordsB_len bs x) (by omega), ← hwb, ← Pl.wordsB_next] at hm2
    refine rw_done ?_
    refine gn_bl ?_
    refine gn_sq ?_
    refine HW_text (.pure 0 (.pure 1 .done)) (by kernel_rfl) ?_
    refine rw_p rfl rfl (y_add rfl rfl (i64w (by omega) (by omega))) ?_
    refine rw_p rfl rfl (y_move rfl) ?_
    refine rw_done ?_
    refine next (x + 1) (by omega) ⟨hm2, by omega⟩ ⟨nx x, rfl, rfl, rfl, trivial⟩
  ·
    simp only [decide_eq_false_iff_not] at hc0
    obtain rfl : x = 16 := by omega
    rw [Nat.sub_self, List.replicate_zero, List.append_nil] at hm
    refine HW_exit rfl ?_
    refine gx_sq (gx_lp ?_)
    refine gx_here ?_
    refine gn_sq ?_
    refine HW_seq rfl ?_
    refine HW_text (.pure 0 (.pure 1 (.pure 2 (.pure 3 (.act 4 (.act 5 .done)))))) (by kernel_rfl) ?_
    refine rw_p rfl rfl (y_move rfl) ?_
    refine rw_p rfl rfl (y_nil rfl) ?_
    refine rw_p rfl rfl (y_fieldAddr rfl fo118_0) ?_
    refine rw_p rfl rfl (y_loadA (s := 8) (vs := [_, _, _, _, _, _, _, _]) rfl ag116 (hm.nt 1 rfl) rfl) ?_
    refine a_alloc rfl rfl z116 hm trivial fun m2 w hg_m2 hm hh => ?_
    refine a_store rfl rfl rfl rfl sz116 rfl hm 0 rfl rfl fun w hm => ?_
    refine rw_done ?_
    refine gn_sq ?_
    refine HW_seq rfl ?_
    refine HW_seq rfl ?_
    refine HW_text (.act 0 (.pure 1 .done)) (by kernel_rfl) ?_
    refine a_call rfl rfl rfl go75 (h_keys _) fun v w hR => ?_
    obtain ⟨rfl, hE⟩ := hR
    refine ⟨trivial, ?_⟩
    replace hm := hm.ext hE
    refine rw_p rfl rfl (y_move rfl) ?_
    refine rw_done ?_
    refine gn_sq ?_
    refine HW_block rfl ?_
    refine HW_loopK (ι := Nat × List UInt32) rfl (ks := [0, 4, 6, 64]) (.cons rfl (.cons rfl (.cons rfl (.cons rfl .nil)))) (fun x => [(65, .int .i64 x.1)]) (fun x w => Mem w0 w (fun k => k = m) [(m2, .row 116 (s8V (Pl.rnds Pl.shK (Pl.schB bs) s x.1))), (m1, .row 137 (x.2.flatMap encW)), (m, (.row TT (stV s rv n)))] ∧ Pl.Ring x.2 (Pl.schB bs) x.1 ∧ x.1 ≤ 64) (fun x => 64 - x.1) (0, Pl.wordsB bs 16) (⟨hm, Pl.Ring.start bs, Nat.zero_le _⟩) ⟨rfl, trivial⟩ (fun x w hM => ?_)
    obtain ⟨hm, hR, hk⟩ := hM
    refine HW_seq rfl ?_
    refine HW_text (.pure 0 .done) (by kernel_rfl) ?_
    refine rw_p rfl rfl (y_lt rfl rfl) ?_
    refine rw_done ?_
    refine gn_sq ?_
    refine HW_seq rfl ?_
    refine HW_cond rfl rfl (fun hc1 => ?_) (fun hc1 => ?_)
    ·
      simp only [decide_eq_true_eq] at hc1
      obtain ⟨t, r⟩ := x
      simp only at hm hR hk hc1 ⊢
      have hKt : Pl.shK[t]? = some (Pl.shK.getD t 0) := by rw [List.getD_eq_getElem?_getD, List.getElem?_eq_getElem (by rw [Pl.shK_len]; omega)]; rfl
      refine HW_skip rfl ?_
      refine gn_sq ?_
      refine HW_seq rfl ?_
      refine HW_block rfl ?_
      refine HW_seq rfl ?_
      refine HW_text (.pure 0 (.pure 1 (.pure 2 (.pure 3 .done)))) (by kernel_rfl) ?_
      refine rw_p rfl rfl (y_move rfl) ?_
      refine rw_p rfl rfl (y_indexV rfl rfl ar138 sc115 (by omega) (getW hKt)) ?_
      refine rw_p rfl rfl (y_assign rfl) ?_
      refine rw_p rfl rfl (y_assign rfl) ?_
      refine rw_done ?_
      refine gn_sq ?_
      refine HW_via (ι := List UInt32) rfl (ks := [0, 4, 6, 7, 8, 64, 65]) (.cons rfl (.cons rfl (.cons rfl (.cons rfl (.cons rfl (.cons rfl (.cons rfl .nil))))))) (fun r9 => []) (fun r9 w => Mem w0 w (fun k => k = m) [(m2, .row 116 (s8V (Pl.rnds Pl.shK (Pl.schB bs) s t))), (m1, .row 137 (r9.flatMap encW)), (m, (.row TT (stV s rv n)))] ∧ Pl.Ring r9 (Pl.schB bs) (t + 1)) ?_ (fun r9 w hM => ?_)
      ·
        refine HW_seq rfl ?_
        refine HW_text (.pure 0 (.pure 1 .done)) (by kernel_rfl) ?_
        refine rw_p rfl rfl (y_move rfl) ?_
        refine rw_p rfl rfl (y_ge rfl rfl) ?_
        refine rw_done ?_
        refine gn_sq ?_
        refine HW_cond rfl rfl (fun hc2 => ?_) (fun hc2 => ?_)
        ·
          simp only [decide_eq_true_eq] at hc2
          refine HW_seq rfl ?_
          refine HW_draw (.pure 0 (.pure 1 (.pure 2 (.pure 3 (.pure 4 (.pure 5 (.pure 6 (.pure 7 (.pure 8 (.pure 9 (.pure 10 (.pure 11 .done)))))))))))) No mix (by kernel_rfl) hm fun w hw hm0 hh => ?_
          have hm := hm0
          refine rw_p rfl rfl (y_move rfl) ?_
          refine rw_p rfl rfl (y_add rfl rfl (addK 1 (by omega))) ?_
          refine rw_p rfl rfl (y_and_ rfl rfl (i_and15 (by omega))) ?_
          refine rw_p rfl rfl (y_indexP rfl rfl ar137 (Int.natCast_nonneg _) (by omega)) ?_
          refine rw_p rfl rfl (y_load rfl sc115 (hm0.nd 1 rfl id) (getW (hR.at (Pl.schB_len bs) (i := t - 15) (by omega) (by omega) (by omega) (by omega)))) ?_
          refine rw_p rfl rfl (y_move rfl) ?_
          refine rw_p rfl rfl (y_add rfl rfl (addK 14 (by omega))) ?_
          refine rw_p rfl rfl (y_and_ rfl rfl (i_and15 (by omega))) ?_
          refine rw_p rfl rfl (y_indexP rfl rfl ar137 (Int.natCast_nonneg _) (by omega)) ?_
          refine rw_p rfl rfl (y_load rfl sc115 (hm0.nd 1 rfl id) (getW (hR.at (Pl.schB_len bs) (i := t - 2) (by omega) (by omega) (by omega) (by omega)))) ?_
          refine rw_p rfl rfl (y_assign rfl) ?_
          refine rw_p rfl rfl (y_assign rfl) ?_
          refine rw_done ?_
          refine gn_sq ?_
          refine HW_seq rfl ?_
          refine HW_text (.pure 0 (.act 1 (.pure 2 (.act 3 (.pure 4 (.pure 5 (.pure 6 (.pure 7 (.pure 8 .done))))))))) (by kernel_rfl) ?_
          refine rw_p rfl rfl (y_move rfl) ?_
          refine a_call rfl rfl rfl go76 (m_rotl _ 7 _ (by decide) (by decide)) fun v w hR => ?_
          obtain ⟨rfl, hE⟩ := hR
          refine ⟨trivial, ?_⟩
          replace hm := hm.ext hE
          refine rw_p rfl rfl (y_move rfl) ?_
          refine a_call rfl rfl rfl go76 (m_rotl _ 18 _ (by decide) (by decide)) fun v w hR => ?_
          obtain ⟨rfl, hE⟩ := hR
          refine ⟨trivial, ?_⟩
          replace hm := hm.ext hE
          refine rw_p rfl rfl (y_xor_ rfl rfl w_xor) ?_
          refine rw_p rfl rfl (y_move rfl) ?_
          refine rw_p rfl rfl (y_shr rfl rfl (by decide) (w_shr 3 rfl (by decide))) ?_
          refine rw_p rfl rfl (y_xor_ rfl rfl w_xor) ?_
          refine rw_p rfl rfl (y_assign rfl) ?_
          refine rw_done ?_
          refine gn_sq ?_
          refine HW_seq rfl ?_
          refine HW_text (.pure 0 (.act 1 (.pure 2 (.act 3 (.pure 4 (.pure 5 (.pure 6 (.pure 7 (.pure 8 .done))))))))) (by kernel_rfl) ?_
          refine rw_p rfl rfl (y_move rfl) ?_
          refine a_call rfl rfl rfl go76 (m_rotl _ 17 _ (by decide) (by decide)) fun v w hR => ?_
          obtain ⟨rfl, hE⟩ := hR
          refine ⟨trivial, ?_⟩
          replace hm := hm.ext hE
          refine rw_p rfl rfl (y_move rfl) ?_
          refine a_call rfl rfl rfl go76 (m_rotl _ 19 _ (by decide) (by decide)) fun v w hR => ?_
          obtain ⟨rfl, hE⟩ := hR
          refine ⟨trivial, ?_⟩
          replace hm := hm.ext hE
          refine rw_p rfl rfl (y_xor_ rfl rfl w_xor) ?_
          refine rw_p rfl rfl (y_move rfl) ?_
          refine rw_p rfl rfl (y_shr rfl rfl (by decide) (w_shr 10 rfl (by decide))) ?_
          refine rw_p rfl rfl (y_xor_ rfl rfl w_xor) ?_
          refine rw_p rfl rfl (y_assign rfl) ?_
          refine rw_done ?_
          refine gn_sq ?_
          refine HW_draw (.pure 0 (.pure 1 (.pure 2 (.pure 3 (.pure 4 (.pure 5 (.pure 6 (.pure 7 (.pure 8 (.pure 9 (.pure 10 (.pure 11 (.pure 12 (.cut (.pure 13 (.pure 14 (.act 15 .done))))))))))))))))) No mix (by kernel_rfl) hm fun w hw hm0 hh => ?_
          have hm := hm0
          refine rw_p rfl rfl (y_move rfl) ?_
          refine rw_p rfl rfl (y_and_ rfl rfl (i_and15 (by omega))) ?_
          refine rw_p rfl rfl (y_indexP rfl rfl ar137 (Int.natCast_nonneg _) (by omega)) ?_
          refine rw_p rfl rfl (y_load rfl sc115 (hm0.nd 1 rfl id) (getW (hR.at (Pl.schB_len bs) (i := t - 16) (by omega) (by omega) (by omega) (by omega)))) ?_
          refine rw_p rfl rfl (y_move rfl) ?_
          refine rw_p rfl rfl (y_move rfl) ?_
          refine rw_p rfl rfl (y_add rfl rfl (addK 9 (by omega))) ?_
          refine rw_p rfl rfl (y_and_ rfl rfl (i_and15 (by omega))) ?_
          refine rw_p rfl rfl (y_indexP rfl rfl ar137 (Int.natCast_nonneg _) (by omega)) ?_
          refine rw_p rfl rfl (y_load rfl sc115 (hm0.nd 1 rfl id) (getW (hR.at (Pl.schB_len bs) (i := t - 7) (by omega) (by omega) (by omega) (by omega)))) ?_
          refine rw_p rfl rfl (y_add rfl rfl w_add) ?_
          refine rw_p rfl rfl (y_move rfl) ?_
          refine rw_p rfl rfl (y_add rfl rfl w_add) ?_
          refine a_cut ?_
          refine rw_p rfl rfl (y_add rfl rfl w_add) ?_
          refine rw_p rfl rfl (y_indexP rfl rfl ar137 (Int.natCast_nonneg _) (by omega)) ?_
          refine a_store rfl rfl rfl rfl sz115 rfl hm 1 rfl (by rw [Nat.ble_eq, lenW, hR.len]; simp only [List.length_singleton]; omega) fun w hm => ?_
          have hm2 : Mem w0 w (fun k => k = m) [(m2, .row 116 (s8V (Pl.rnds Pl.shK (Pl.schB bs) s t))), (m1, .row 137 (upds (r.flatMap encW) (0 + (t % 16) * 1) [.int .u32 (((Pl.schB bs).getD (t - 16) 0 + (Pl.sg0 ((Pl.schB bs).getD (t - 15) 0) + (Pl.schB bs).getD (t - 7) 0 + Pl.sg1 ((Pl.schB bs).getD (t - 2) 0))).toNat : Int)])), (m, (.row TT (stV s rv n)))] := hm
          rw [setW] at hm2
          refine rw_done ?_
          first | exact gn_vi _ ⟨hm2, hR.next1 (by omega) (by omega) (Pl.schB_ring bs (by omega) (by omega))⟩ ⟨rfl, rfl, rfl, rfl, rfl, rfl, rfl, trivial⟩ | exact gn_vi r ⟨hm, hR.next0 (by omega)⟩ ⟨rfl, rfl, rfl, rfl, rfl, rfl, rfl, trivial⟩
        ·
          simp only [decide_eq_false_iff_not] at hc2
          refine HW_skip rfl ?_
          first | exact gn_vi _ ⟨hm2, hR.next1 (by omega) (by omega) (Pl.schB_ring bs (by omega) (by omega))⟩ ⟨rfl, rfl, rfl, rfl, rfl, rfl, rfl, trivial⟩ | exact gn_vi r ⟨hm, hR.next0 (by omega)⟩ ⟨rfl, rfl, rfl, rfl, rfl, rfl, rfl, trivial⟩
      ·
        obtain ⟨hm, hR⟩ := hM
        refine HW_seq rfl ?_
        refine HW_draw (.pure 0 (.pure 1 (.pure 2 (.pure 3 (.pure 4 (.pure 5 .done)))))) No mix (by kernel_rfl) hm fun w hw hm0 hh => ?_
        have hm := hm0
        refine rw_p rfl rfl (y_indexP rfl rfl ar116 (by omega) (by omega)) ?_
        refine rw_p rfl rfl (y_load rfl sc115 (hm0.nd 0 rfl id) rfl) ?_
        refine rw_p rfl rfl (y_indexP rfl rfl ar116 (by omega) (by omega)) ?_
        refine rw_p rfl rfl (y_load rfl sc115 (hm0.nd 0 rfl id) rfl) ?_
        refine rw_p rfl rfl (y_assign rfl) ?_
        refine rw_p rfl rfl (y_assign rfl) ?_
        refine rw_done ?_
        refine gn_sq ?_
        refine HW_seq rfl ?_
        refine HW_text (.pure 0 (.pure 1 (.pure 2 (.pure 3 (.pure 4 (.pure 5 (.pure 6 (.pure 7 (.pure 8 (.pure 9 (.pure 10 .done))))))))))) (by kernel_rfl) ?_
        refine rw_p rfl rfl (y_indexP rfl rfl ar116 (by omega) (by omega)) ?_
        refine rw_p rfl rfl (y_load rfl sc115 (hm.nt 0 rfl) rfl) ?_
        refine rw_p rfl rfl (y_move rfl) ?_
        refine rw_p rfl rfl (y_indexP rfl rfl ar116 (by omega) (by omega)) ?_
        refine rw_p rfl rfl (y_load rfl sc115 (hm.nt 0 rfl) rfl) ?_
        refine rw_p rfl rfl (y_indexP rfl rfl ar116 (by omega) (by omega)) ?_
        refine rw_p rfl rfl (y_load rfl sc115 (hm.nt 0 rfl) rfl) ?_
        refine rw_p rfl rfl (y_xor_ rfl rfl w_xor) ?_
        refine rw_p rfl rfl (y_and_ rfl rfl w_and) ?_
        refine rw_p rfl rfl (y_xor_ rfl rfl w_xor) ?_
        refine rw_p rfl rfl (y_assign rfl) ?_
        refine rw_done ?_
        refine gn_sq ?_
        refine HW_seq rfl ?_
        refine HW_text (.pure 0 (.pure 1 (.pure 2 (.pure 3 (.pure 4 (.pure 5 (.pure 6 (.pure 7 (.pure 8 (.pure 9 (.pure 10 (.pure 11 (.pure 12 .done))))))))))))) (by kernel_rfl) ?_
        refine rw_p rfl rfl (y_move rfl) ?_
        refine rw_p rfl rfl (y_indexP rfl rfl ar116 (by omega) (by omega)) ?_
        refine rw_p rfl rfl (y_load rfl sc115 (hm.nt 0 rfl) rfl) ?_
        refine rw_p rfl rfl (y_and_ rfl rfl w_and) ?_
        refine rw_p rfl rfl (y_indexP rfl rfl ar116 (by omega) (by omega)) ?_
        refine rw_p rfl rfl (y_load rfl sc115 (hm.nt 0 rfl) rfl) ?_
        refine rw_p rfl rfl (y_move rfl) ?_
        refine rw_p rfl rfl (y_indexP rfl rfl ar116 (by omega) (by omega)) ?_
        refine rw_p rfl rfl (y_load rfl sc115 (hm.nt 0 rfl) rfl) ?_
        refine rw_p rfl rfl (y_or_ rfl rfl w_or) ?_
        refine rw_p rfl rfl (y_and_ rfl rfl w_and) ?_
        refine rw_p rfl rfl (y_or_ rfl rfl w_or) ?_
        refine rw_p rfl rfl (y_assign rfl) ?_
        refine rw_done ?_
        refine gn_sq ?_
        refine HW_via (ι := Unit) rfl (ks := [0, 4, 6, 7, 8, 13, 14, 15, 16, 64, 65]) (.cons rfl (.cons rfl (.cons rfl (.cons rfl (.cons rfl (.cons rfl (.cons rfl (.cons rfl (.cons rfl (.cons rfl (.cons rfl .nil))))))))))) (fun u9 => [(17, .int .u32 ((Pl.shT1 (Pl.rnds Pl.shK (Pl.schB bs) s t) (Pl.shK.getD t 0) ((Pl.schB bs).getD t 0)).toNat : Int))]) (fun u9 w => Mem w0 w (fun k => k = m) [(m2, .row 116 (s8V (Pl.rnds Pl.shK (Pl.schB bs) s t))), (m1, .row 137 (r9.flatMap encW)), (m, (.row TT (stV s rv n)))]) ?_ (fun u9 w hM => ?_)
        ·
          refine HW_draw (.pure 0 (.pure 1 (.pure 2 (.pure 4 (.pure 7 (.pure 11 (.pure 13 (.pure 15 (.pure 16 (.pure 17 (.pure 18 (.act 3 (.act 5 (.pure 6 (.act 8 (.pure 9 (.pure 10 (.pure 12 (.pure 14 (.pure 19 (.pure 20 .done))))))))))))))))))))) No mix (by kernel_rfl) hm fun w hw hm0 hh => ?_
          have hm := hm0
          refine rw_p rfl rfl (y_indexP rfl rfl ar116 (by omega) (by omega)) ?_
          refine rw_p rfl rfl (y_load rfl sc115 (hm0.nd 0 rfl id) rfl) ?_
          refine rw_p rfl rfl (y_move rfl) ?_
          refine rw_p rfl rfl (y_move rfl) ?_
          refine rw_p rfl rfl (y_move rfl) ?_
          refine rw_p rfl rfl (y_move rfl) ?_
          refine rw_p rfl rfl (y_move rfl) ?_
          refine rw_p rfl rfl (y_move rfl) ?_
          refine rw_p rfl rfl (y_and_ rfl rfl (i_and15 (by omega))) ?_
          refine rw_p rfl rfl (y_indexP rfl rfl ar137 (Int.natCast_nonneg _) (by omega)) ?_
          refine rw_p rfl rfl (y_load rfl sc115 (hm0.nd 1 rfl id) (getW (hR.at (Pl.schB_len bs) (i := t) (by omega) (by omega) (by omega) rfl))) ?_
          refine a_call rfl rfl rfl go76 (m_rotl _ 6 _ (by decide) (by decide)) fun v w hR => ?_
          obtain ⟨rfl, hE⟩ := hR
          refine ⟨hh.ext hE, ?_⟩
          replace hm := hm.ext hE
          replace hh := hh.ext hE
          refine a_call rfl rfl rfl go76 (m_rotl _ 11 _ (by decide) (by decide)) fun v w hR => ?_
          obtain ⟨rfl, hE⟩ := hR
          refine ⟨hh.ext hE, ?_⟩
          replace hm := hm.ext hE
          replace hh := hh.ext hE
          refine rw_p rfl rfl (y_xor_ rfl rfl w_xor) ?_
          refine a_call rfl rfl rfl go76 (m_rotl _ 25 _ (by decide) (by decide)) fun v w hR => ?_
          obtain ⟨rfl, hE⟩ := hR
          refine ⟨hh.ext hE, ?_⟩
          replace hm := hm.ext hE
          replace hh := hh.ext hE
          refine rw_p rfl rfl (y_xor_ rfl rfl w_xor) ?_
          refine rw_p rfl rfl (y_add rfl rfl w_add) ?_
          refine rw_p rfl rfl (y_add rfl rfl w_add) ?_
          refine rw_p rfl rfl (y_add rfl rfl w_add) ?_
          refine rw_p rfl rfl (y_add rfl rfl w_add) ?_
          refine rw_p rfl rfl (y_assign rfl) ?_
          refine rw_done ?_
          exact gn_vi () hm ⟨by rw [← Pl.t1_eq]; rfl, rfl, rfl, rfl, rfl, rfl, rfl, rfl, rfl, rfl, rfl, rfl, trivial⟩
        ·
          have hm := hM
          refine HW_seq rfl ?_
          refine HW_text (.pure 0 (.act 1 (.pure 2 (.act 3 (.pure 4 (.pure 5 (.act 6 (.pure 7 (.pure 8 (.pure 9 (.pure 10 .done))))))))))) (by kernel_rfl) ?_
          refine rw_p rfl rfl (y_move rfl) ?_
          refine a_call rfl rfl rfl go76 (m_rotl _ 2 _ (by decide) (by decide)) fun v w hR => ?_
          obtain ⟨rfl, hE⟩ := hR
          refine ⟨trivial, ?_⟩
          replace hm := hm.ext hE
          refine rw_p rfl rfl (y_move rfl) ?_
          refine a_call rfl rfl rfl go76 (m_rotl _ 13 _ (by decide) (by decide)) fun v w hR => ?_
          obtain ⟨rfl, hE⟩ := hR
          refine ⟨trivial, ?_⟩
          replace hm := hm.ext hE
          refine rw_p rfl rfl (y_xor_ rfl rfl w_xor) ?_
          refine rw_p rfl rfl (y_move rfl) ?_
          refine a_call rfl rfl rfl go76 (m_rotl _ 22 _ (by decide) (by decide)) fun v w hR => ?_
          obtain ⟨rfl, hE⟩ := hR
          refine ⟨trivial, ?_⟩
          replace hm := hm.ext hE
          refine rw_p rfl rfl (y_xor_ rfl rfl w_xor) ?_
          refine rw_p rfl rfl (y_move rfl) ?_
          refine rw_p rfl rfl (y_add rfl rfl w_add) ?_
          refine rw_p rfl rfl (y_assign rfl) ?_
          refine rw_done ?_
          refine gn_sq ?_
          refine HW_seq rfl ?_
          refine HW_draw (.pure 0 (.pure 1 (.cut (.act 2 .done)))) No mix (by kernel_rfl) hm fun w hw hm0 hh => ?_
          have hm := hm0
          refine rw_p rfl rfl (y_sliceP (ln := 1) (hn := 8) rfl ar116 ⟨_, rfl⟩ rfl (by omega) (by omega) (by omega)) ?_
          refine rw_p rfl rfl (y_sliceP (ln := 0) (hn := 7) rfl ar116 rfl ⟨_, rfl⟩ (by omega) (by omega) (by omega)) ?_
          refine a_cut ?_
          refine a_copyR (src := (s8V (Pl.rnds Pl.shK (Pl.schB bs) s t)).take 7) rfl rfl rfl rfl rfl sl105 hm 0 rfl (Nat.le_refl 8) (Rd.row (hm.get (k := 0) rfl) takeP) rfl rfl fun w hm => ?_
          refine rw_done ?_
          refine gn_sq ?_
          refine HW_seq rfl ?_
          refine HW_text (.pure 0 (.pure 1 (.pure 2 (.pure 3 (.pure 4 (.act 5 .done)))))) (by kernel_rfl) ?_
          refine rw_p rfl rfl (y_indexP rfl rfl ar116 (by omega) (by omega)) ?_
          refine rw_p rfl rfl (y_load rfl sc115 (hm.nt 0 rfl) rfl) ?_
          refine rw_p rfl rfl (y_move rfl) ?_
          refine rw_p rfl rfl (y_add rfl rfl w_add) ?_
          refine rw_p rfl rfl (y_indexP rfl rfl ar116 (by omega) (by omega)) ?_
          refine a_store rfl rfl rfl rfl sz115 rfl hm 0 rfl rfl fun w hm => ?_
          refine rw_done ?_
          refine gn_sq ?_
          refine HW_text (.pure 0 (.pure 1 (.pure 2 (.pure 3 (.act 4 .done))))) (by kernel_rfl) ?_
          refine rw_p rfl rfl (y_move rfl) ?_
          refine rw_p rfl rfl (y_move rfl) ?_
          refine rw_p rfl rfl (y_add rfl rfl w_add) ?_
          refine rw_p rfl rfl (y_indexP rfl rfl ar116 (by omega) (by omega)) ?_
          refine a_store rfl rfl rfl rfl sz115 rfl hm 0 rfl rfl fun w hm => ?_
          have hm3 : Mem w0 w (fun k => k = m) [(m2, .row 116 (s8V (Pl.rnds Pl.shK (Pl.schB bs) s (t + 1)))), (m1, .row 137 (r9.flatMap encW)), (m, (.row TT (stV s rv n)))] := by have e := Pl.t2_eq (Pl.rnds Pl.shK (Pl.schB bs) s t); unfold Pl.rnds Pl.rnd; rw [← e]; exact hm
          refine rw_done ?_
          refine gn_bl ?_
          refine gn_sq ?_
          refine HW_text (.pure 0 (.pure 1 .done)) (by kernel_rfl) ?_
          refine rw_p rfl rfl (y_add rfl rfl (i64w (by omega) (by omega))) ?_
          refine rw_p rfl rfl (y_move rfl) ?_
          refine rw_done ?_
          refine next (t + 1, r9) (by simp only; omega) ⟨hm3, hR, by simp only; omega⟩ ⟨nx t, rfl, rfl, rfl, rfl, trivial⟩
    ·
      simp only [decide_eq_false_iff_not] at hc1
      obtain ⟨t, r⟩ := x
      simp only at hm hR hk hc1 ⊢
      obtain rfl : t = 64 := by omega
      refine HW_exit rfl ?_
      refine gx_sq (gx_lp ?_)
      refine gx_here ?_
      refine gn_sq ?_
      refine HW_seq rfl ?_
      refine HW_text (.pure 0 (.pure 1 .done)) (by kernel_rfl) ?_
      refine rw_p rfl rfl (y_loadA (s := 8) (vs := [_, _, _, _, _, _, _, _]) rfl ag116 (hm.nt 0 rfl) rfl) ?_
      refine rw_p rfl rfl (y_move rfl) ?_
      refine rw_done ?_
      refine gn_sq ?_
      refine HW_block rfl ?_
      refine HW_loopK (ι := Nat) rfl (ks := [0, 181]) (.cons rfl (.cons rfl .nil)) (fun y => [(182, .int .i64 y)]) (fun y w => Mem w0 w (fun k => k = m) [(m2, .row 116 (s8V (Pl.rnds Pl.shK (Pl.schB bs) s 64))), (m1, .row 137 (r.flatMap encW)), (m, .row TT (stL (addTo s (Pl.rnds Pl.shK (Pl.schB bs) s 64) y) rv n))] ∧ y ≤ 8) (fun y => 8 - y) 0 (⟨hm, Nat.zero_le _⟩) ⟨rfl, trivial⟩ (fun y w hM => ?_)
      obtain ⟨hm, hk⟩ := hM
      refine HW_seq rfl ?_
      refine HW_text (.pure 0 .done) (by kernel_rfl) ?_
      refine rw_p rfl rfl (y_lt rfl rfl) ?_
      refine rw_done ?_
      refine gn_sq ?_
      refine HW_seq rfl ?_
      refine HW_cond rfl rfl (fun hc3 => ?_) (fun hc3 => ?_)
      ·
        simp only [decide_eq_true_eq] at hc3
        refine HW_skip rfl ?_
        refine gn_sq ?_
        refine HW_seq rfl ?_
        refine HW_block rfl ?_
        refine HW_seq rfl ?_
        refine HW_text (.pure 0 (.pure 1 (.pure 2 (.pure 3 .done)))) (by kernel_rfl) ?_
        refine rw_p rfl rfl (y_move rfl) ?_
        refine rw_p rfl rfl (y_indexV rfl rfl ar116 sc115 (by omega) (S8get (by omega))) ?_
        refine rw_p rfl rfl (y_assign rfl) ?_
        refine rw_p rfl rfl (y_assign rfl) ?_
        refine rw_done ?_
        refine gn_sq ?_
        refine HW_draw (.pure 0 (.pure 1 (.pure 2 (.pure 3 (.pure 4 (.pure 5 (.pure 6 (.pure 7 (.pure 8 (.pure 9 (.cut (.pure 10 (.act 11 .done))))))))))))) No mix (by kernel_rfl) hm fun w hw hm0 hh => ?_
        have hm := hm0
        refine rw_p rfl rfl (y_move rfl) ?_
        refine rw_p rfl rfl (y_move rfl) ?_
        refine rw_p rfl rfl (y_nil rfl) ?_
        refine rw_p rfl rfl (y_fieldAddr rfl fo118_0) ?_
        refine rw_p rfl rfl (y_indexP rfl rfl ar116 (by omega) (by omega)) ?_
        refine rw_p rfl rfl (y_load rfl sc115 (hm0.nd 2 rfl id) (stL_get (addTo_get _ _ (by omega)))) ?_
        refine rw_p rfl rfl (y_move rfl) ?_
        refine rw_p rfl rfl (y_add rfl rfl w_add) ?_
        refine rw_p rfl rfl (y_nil rfl) ?_
        refine rw_p rfl rfl (y_fieldAddr rfl fo118_0) ?_
        refine a_cut ?_
        refine rw_p rfl rfl (y_indexP rfl rfl ar116 (by omega) (by omega)) ?_
        refine a_store rfl rfl rfl rfl sz115 rfl hm 2 rfl (by rw [Nat.ble_eq]; unfold stL; rw [List.length_append, lenW, addTo_len _ _ (by omega)]; simp only [List.length_cons, List.length_nil]; omega) fun w hm => ?_
        have hm2 : Mem w0 w (fun k => k = m) [(m2, .row 116 (s8V (Pl.rnds Pl.shK (Pl.schB bs) s 64))), (m1, .row 137 (r.flatMap encW)), (m, .row TT (upds (stL (addTo s (Pl.rnds Pl.shK (Pl.schB bs) s 64) y) rv n) (0 + y * 1) [.int .u32 ((s.l.getD y 0 + (Pl.rnds Pl.shK (Pl.schB bs) s 64).l.getD y 0).toNat : Int)]))] := hm
        rw [stL_set (by rw [addTo_len _ _ (by omega)]; omega), addTo_set _ _ (by omega)] at hm2
        refine rw_done ?_
        refine gn_bl ?_
        refine gn_sq ?_
        refine HW_text (.pure 0 (.pure 1 .done)) (by kernel_rfl) ?_
        refine rw_p rfl rfl (y_add rfl rfl (i64w (by omega) (by omega))) ?_
        refine rw_p rfl rfl (y_move rfl) ?_
        refine rw_done ?_
        refine next (y + 1) (by omega) ⟨hm2, by omega⟩ ⟨nx y, rfl, rfl, trivial⟩
      ·
        simp only [decide_eq_false_iff_not] at hc3
        obtain rfl : y = 8 := by omega
        refine HW_exit rfl ?_
        refine gx_sq (gx_lp ?_)
        refine gx_here ?_
        refine toN (fin hnorm rfl .nil .nil ?_)
        exact ⟨rfl, (hm.pick [2] rfl)⟩

set_option maxHeartbeats 800000 in
theorem h_take (bs : List UInt8) (q : Option Addr) (cq : Nat) (TT m : Nat) (msg : List UInt8) (Z : List (Nat × Blk)) (w0 : World) (hZ : OwnZ w0 Z) (hz : HashZ TT 5 msg m Z) (hml : msg.length ≤ 1000000000000) (hq : Rd w0 q (bs.flatMap encB)) (hap : bs.flatMap encB ≠ [] → ∀ ad, q = some ad → ¬ Mn (reals Z) ad.block) (hbl : bs.length ≤ 1000000000000) : C Try.prog 62 [.pointer (some ⟨m, 0, none⟩), .slice q bs.length cq] w0 fun v w' => v = .tuple ⟨[]⟩ ∧ ∃ Z', HashZ TT 5 (msg ++ bs) m Z' ∧ Mem w0 w' (Mn (reals Z)) Z' := by
  have hm0 := hZ.start
  generalize Mn (reals Z) = X at hap hm0 ⊢
  obtain ⟨p, cap, g, b, rfl, ha⟩ := hz
  have hrl := Pl.shRest_len msg
  refine C_of Try.func62 rfl rfl rfl fun κ hret hnorm => ?_
  have hm := hm0
  refine HW_seq rfl ?_
  refine HW_text (.pure 0 (.pure 1 (.pure 2 (.pure 3 (.pure 4 (.pure 5 (.pure 6 (.pure 7 (.pure 8 (.act 9 .done)))))))))) (by kernel_rfl) ?_
  refine rw_p rfl rfl (y_move rfl) ?_
  refine rw_p rfl rfl (y_nil rfl) ?_
  refine rw_p rfl rfl (y_fieldAddr rfl fo118_2) ?_
  refine rw_p rfl rfl (y_load rfl sc3 (hm.nt 0 rfl) rfl) ?_
  refine rw_p rfl rfl (y_move rfl) ?_
  refine rw_p rfl rfl (y_len rfl rfl sl27) ?_
  refine rw_p rfl rfl (y_add rfl rfl ((addK _ (by omega)).trans (show _ = (((msg ++ bs).length : Nat) : Int) by rw [List.length_append]))) ?_
  refine rw_p rfl rfl (y_nil rfl) ?_
  refine rw_p rfl rfl (y_fieldAddr rfl fo118_2) ?_
  refine a_store rfl rfl rfl rfl sz3 rfl hm 0 rfl rfl fun w hm => ?_
  refine rw_done ?_
  refine gn_sq ?_
  refine HW_seq rfl ?_
  refine HW_text (.pure 0 (.pure 1 (.pure 2 (.pure 3 (.pure 4 (.pure 5 (.act 6 (.pure 7 (.pure 8 (.act 9 .done)))))))))) (by kernel_rfl) ?_
  refine rw_p rfl rfl (y_move rfl) ?_
  refine rw_p rfl rfl (y_move rfl) ?_
  refine rw_p rfl rfl (y_nil rfl) ?_
  refine rw_p rfl rfl (y_fieldAddr rfl fo118_1) ?_
  refine rw_p rfl rfl (y_load rfl sc27 (hm.nt 0 rfl) rfl) ?_
  refine rw_p rfl rfl (y_move rfl) ?_
  refine a_appendO rfl rfl rfl rfl rfl rfl sl27 sl27 z5 rfl (oneB bs) (hq.extN hm.to hap) (lenB bs) ha hm 1 rfl (by omega) (by omega) fun p_s cap_s g_s b_s w ha_s hm => ?_
  have hR0 := Pl.shRest_app msg bs
  have hS0 := Pl.shFold_st msg bs
  have hLr : (Pl.shRest msg ++ bs).length = (Pl.shRest msg).length + bs.length := List.length_append
  refine rw_p rfl rfl (y_nil rfl) ?_
  refine rw_p rfl rfl (y_fieldAddr rfl fo118_1) ?_
  refine a_store rfl rfl rfl rfl sz27 rfl hm 0 rfl rfl fun w hm => ?_
  refine rw_done ?_
  refine gn_sq ?_
  refine HW_block rfl ?_
  refine HW_loopK (ι := Nat) rfl (ks := [0]) (.cons rfl .nil) (fun k => []) (fun k w => ∃ p9 c9, Mem w0 w X [(m, .row TT (stV (Pl.shFold Pl.shI (msg ++ bs) k) (.slice p9 ((msg ++ bs).drop (64 * k)).length c9) ((msg ++ bs).length : Int))), (g_s, b_s)] ∧ Acco 5 1 p9 ((msg ++ bs).drop (64 * k)).length c9 (((msg ++ bs).drop (64 * k)).flatMap encB) g_s b_s ∧ 64 * k ≤ (msg ++ bs).length) (fun k => (msg ++ bs).length + 1 - 64 * k) (msg.length / 64) (⟨p_s, cap_s, by rw [hR0, hS0, hLr]; exact hm, by rw [hR0, hLr, List.flatMap_append]; exact ha_s, by rw [List.length_append]; omega⟩) trivial (fun k w hM => ?_)
  obtain ⟨p9, c9, hm, ha, hk⟩ := hM
  refine HW_seq rfl ?_
  refine HW_seq rfl ?_
  refine HW_text (.pure 0 (.pure 1 (.pure 2 (.pure 3 (.pure 4 (.pure 5 .done)))))) (by kernel_rfl) ?_
  refine rw_p rfl rfl (y_move rfl) ?_
  refine rw_p rfl rfl (y_nil rfl) ?_
  refine rw_p rfl rfl (y_fieldAddr rfl fo118_1) ?_
  refine rw_p rfl rfl (y_load rfl sc27 (hm.nt 0 rfl) rfl) ?_
  refine rw_p rfl rfl (y_len rfl rfl sl27) ?_
  refine rw_p rfl rfl (y_ge rfl rfl) ?_
  refine rw_done ?_
  refine gn_sq ?_
  refine HW_cond rfl rfl (fun hc0 => ?_) (fun hc0 => ?_)
  ·
    simp only [decide_eq_true_eq] at hc0
    have hle9 := ha.le
    have hk9 : ((msg ++ bs).drop (64 * k)).length = (msg ++ bs).length - 64 * k := List.length_drop
    have hLd : (((msg ++ bs).drop (64 * k)).drop 64).length = ((msg ++ bs).drop (64 * k)).length - 64 := List.length_drop
    refine HW_skip rfl ?_
    refine gn_sq ?_
    refine HW_block rfl ?_
    refine HW_seq rfl ?_
    refine HW_text (.pure 0 (.pure 1 (.pure 2 (.pure 3 (.pure 4 (.pure 5 (.act 6 .done))))))) (by kernel_rfl) ?_
    refine rw_p rfl rfl (y_move rfl) ?_
    refine rw_p rfl rfl (y_move rfl) ?_
    refine rw_p rfl rfl (y_nil rfl) ?_
    refine rw_p rfl rfl (y_fieldAddr rfl fo118_1) ?_
    refine rw_p rfl rfl (y_load rfl sc27 (hm.nt 0 rfl) rfl) ?_
    refine rw_p rfl rfl (y_slice (ln := 0) (hn := 64) rfl sl27 rfl ⟨_, rfl⟩ (by omega) (by omega) (fun h => ha.spot (by omega))) ?_
    refine a_call rfl rfl rfl go71 (h_block TT m _ _ _ _ _ (((msg ++ bs).drop (64 * k)).take 64) _ (hm.get (k := 0) rfl) ((ha.rdM hm (by simp)).take0 ha.le) (ha.apart0 hm 1 0 rfl rfl rfl 64 rfl) (by rw [List.length_take]; omega)) fun v w hR => ?_
    obtain ⟨rfl, hmc⟩ := hR
    refine ⟨trivial, ?_⟩
    replace hm := hm.callJ 0 rfl hmc
    refine rw_done ?_
    refine gn_sq ?_
    refine HW_text (.pure 0 (.pure 1 (.pure 2 (.pure 3 (.pure 4 (.pure 5 (.pure 6 (.pure 7 (.act 8 .done))))))))) (by kernel_rfl) ?_
    refine rw_p rfl rfl (y_move rfl) ?_
    refine rw_p rfl rfl (y_move rfl) ?_
    refine rw_p rfl rfl (y_nil rfl) ?_
    refine rw_p rfl rfl (y_fieldAddr rfl fo118_1) ?_
    refine rw_p rfl rfl (y_load rfl sc27 (hm.nt 0 rfl) rfl) ?_
    refine rw_p rfl rfl (y_slice (ln := 64) (hn := ((msg ++ bs).drop (64 * k)).length) rfl sl27 ⟨_, rfl⟩ rfl (by omega) (by omega) (fun h => ha.spot (by omega))) ?_
    refine rw_p rfl rfl (y_nil rfl) ?_
    refine rw_p rfl rfl (y_fieldAddr rfl fo118_1) ?_
    refine a_store rfl rfl rfl rfl sz27 rfl hm 0 rfl rfl fun w hm => ?_
    refine rw_done ?_
    refine gn_bl ?_
    refine next (k + 1) (by omega) ⟨slp p9 c9 64 1, c9 - 64, ?_, ?_, by omega⟩ ⟨rfl, trivial⟩
    · rw [Pl.sh_drop, hLd]; exact hm
    · rw [Pl.sh_drop, hLd, ← dropB]; exact ha.cut (by omega)
  ·
    simp only [decide_eq_false_iff_not] at hc0
    have hke := Pl.sh_stop hk (by omega)
    subst hke
    refine HW_exit rfl ?_
    refine gx_sq (gx_lp ?_)
    refine gx_here ?_
    refine toN (fin hnorm rfl .nil .nil ?_)
    exact ⟨rfl, _, ⟨_, _, _, _, rfl, ha⟩, hm⟩

theorem h_initial (w0 : World) : C Try.prog 60 [] w0 fun v w' => v = .agg ⟨stV Pl.shI (.slice none 0 0) 0⟩ ∧ Ext No w0 w' := by
  refine C_of Try.func60 rfl rfl rfl fun κ hret hnorm => ?_
  have hm := Mem.start w0
  refine HW_seq rfl ?_
  refine HW_text (.act 0 .done) (by kernel_rfl) ?_
  refine a_alloc rfl rfl z118 hm trivial fun m1 w hg_m1 hm hh => ?_
  refine rw_done ?_
  refine gn_sq ?_
  refine HW_seq rfl ?_
  refine HW_text (.pure 0 (.pure 1 (.act 2 .done))) (by kernel_rfl) ?_
  refine rw_p rfl rfl (y_build (cs := [_, _, _, _, _, _, _, _]) z116 ft116 rfl rfl rfl rfl rfl) ?_
  refine rw_p rfl rfl (y_build (cs := [_, _, _, _, _, _, _, _, _, _]) z118 ft118 rfl rfl rfl rfl rfl) ?_
  refine a_store rfl rfl rfl rfl sz118 rfl hm 0 rfl rfl fun w hm => ?_
  refine rw_done ?_
  refine gn_sq ?_
  refine HW_ret rfl ?_
  refine toR (fin hret rfl (.cell rfl (run_loadVar_a (vs := [_, _, _, _, _, _, _, _, _, _]) ag118 (hm.get (k := 0) rfl) rfl) .nil) .one ?_)
  exact ⟨rfl, hm.to⟩

theorem h_copied (TT m : Nat) (msg : List UInt8) (Z : List (Nat × Blk)) (w0 : World) (hZ : OwnZ w0 Z) (hz : HashZ TT 5 msg m Z) (hml : msg.length ≤ 1000000000000) : C Try.prog 63 [.pointer (some ⟨m, 0, none⟩)] w0 fun v w' => ∃ p9 c9 g9 b9, v = .agg ⟨stV (Pl.shSt msg) (.slice p9 (Pl.shRest msg).length c9) (msg.length : Int)⟩ ∧ Acc 5 1 p9 (Pl.shRest msg).length c9 ((Pl.shRest msg).flatMap encB) g9 b9 ∧ Mem w0 w' No [(g9, b9)] := by
  obtain ⟨p, cap, g, b, rfl, ha⟩ := hz
  have hP : w0.heap[m]? = some (Blk.row TT (stV (Pl.shSt msg) (.slice p (Pl.shRest msg).length cap) (msg.length : Int))).toObj := hZ.get (k := 0) rfl
  have hrl := Pl.shRest_len msg
  have hRd := ha.rdM hZ.start (by simp)
  refine C_of Try.func63 rfl rfl rfl fun κ hret hnorm => ?_
  have hm := Mem.start w0
  refine HW_seq rfl ?_
  refine HW_text (.act 0 .done) (by kernel_rfl) ?_
  refine a_alloc rfl rfl z118 hm trivial fun m1 w hg_m1 hm hh => ?_
  refine rw_done ?_
  refine gn_sq ?_
  refine HW_seq rfl ?_
  refine HW_text (.pure 0 (.pure 1 (.pure 2 (.act 3 (.act 4 .done))))) (by kernel_rfl) ?_
  refine rw_p rfl rfl (y_move rfl) ?_
  refine rw_p rfl rfl (y_nil rfl) ?_
  refine rw_p rfl rfl (y_loadA (s := 10) (vs := [_, _, _, _, _, _, _, _, _, _]) rfl ag118 (nowT ((hm.to.same _ (Array.getElem?_eq_some_iff.1 hP).1 id).trans hP)) rfl) ?_
  refine a_alloc rfl rfl z118 hm trivial fun m2 w hg_m2 hm hh => ?_
  refine a_store rfl rfl rfl rfl sz118 rfl hm 0 rfl rfl fun w hm => ?_
  refine rw_done ?_
  refine gn_sq ?_
  refine HW_seq rfl ?_
  refine HW_text (.pure 0 (.pure 1 (.pure 2 (.pure 3 (.act 4 (.pure 5 (.act 6 .done))))))) (by kernel_rfl) ?_
  refine rw_p rfl rfl (y_move rfl) ?_
  refine rw_p rfl rfl (y_nil rfl) ?_
  refine rw_p rfl rfl (y_fieldAddr rfl fo118_1) ?_
  refine rw_p rfl rfl (y_load rfl sc27 (nowT ((hm.to.same _ (Array.getElem?_eq_some_iff.1 hP).1 id).trans hP)) rfl) ?_
  refine a_call rfl rfl rfl go35 (clone_b p cap (Pl.shRest msg) _ (hRd.ext0 hm.to) (by omega)) fun v w hR => ?_
  obtain ⟨p_s, cap_s, g_s, b_s, rfl, ha_s, hmc⟩ := hR
  refine ⟨trivial, ?_⟩
  replace hm := hm.callN hmc
  refine rw_p rfl rfl (y_fieldAddr rfl fo118_1) ?_
  refine a_store rfl rfl rfl rfl sz27 rfl hm 1 rfl rfl fun w hm => ?_
  refine rw_done ?_
  refine gn_sq ?_
  refine HW_seq rfl ?_
  refine HW_text (.pure 0 (.act 1 .done)) (by kernel_rfl) ?_
  refine rw_p rfl rfl (y_loadA (s := 10) (vs := [_, _, _, _, _, _, _, _, _, _]) rfl ag118 (hm.nt 1 rfl) rfl) ?_
  refine a_store rfl rfl rfl rfl sz118 rfl hm 2 rfl rfl fun w hm => ?_
  refine rw_done ?_
  refine gn_sq ?_
  refine HW_ret rfl ?_
  refine toR (fin hret rfl (.cell rfl (run_loadVar_a (vs := [_, _, _, _, _, _, _, _, _, _]) ag118 (hm.get (k := 2) rfl) rfl) .nil) .one ?_)
  exact ⟨p_s, cap_s, g_s, b_s, rfl, ha_s, (hm.pick [0] rfl)⟩

set_option maxHeartbeats 1600000 in
theorem h_finish (TT m : Nat) (msg : List UInt8) (Z : List (Nat × Blk)) (w0 : World) (hZ : OwnZ w0 Z) (hz : HashZ TT 5 msg m Z) (hml : msg.length ≤ 1000000000000) : C Try.prog 64 [.pointer (some ⟨m, 0, none⟩)] w0 fun v w' => v = .agg ⟨(Pl.sha msg).flatMap encB⟩ ∧ ∃ Z', Mem w0 w' (Mn (reals Z)) Z' := by
  have hzz := hz
  obtain ⟨p, cap, g, b, hZe, ha⟩ := hzz
  have hrl := Pl.shRest_len msg
  have hpz : (119 - (Pl.shRest msg).length) % 64 = Pl.padZ msg.length := by unfold Pl.padZ; rw [hrl]
  refine C_of Try.func64 rfl rfl rfl fun κ hret hnorm => ?_
  have hm := hZ.start
  refine HW_seq rfl ?_
  refine HW_text (.act 0 .done) (by kernel_rfl) ?_
  refine a_alloc rfl rfl z62 hm trivial fun m1 w hg_m1 hm hh => ?_
  refine rw_done ?_
  refine gn_sq ?_
  refine HW_seq rfl ?_
  refine HW_text (.pure 0 (.pure 1 (.pure 2 (.pure 3 (.pure 4 (.pure 5 (.pure 6 .done))))))) (by kernel_rfl) ?_
  refine rw_p rfl rfl (y_move rfl) ?_
  have hPn := (hZe ▸ OwnZ.right (A := [_]) hm.ownZ).get (k := 0) rfl
  refine rw_p rfl rfl (y_nil rfl) ?_
  refine rw_p rfl rfl (y_fieldAddr rfl fo118_2) ?_
  refine rw_p rfl rfl (y_load rfl sc3 (nowT hPn) rfl) ?_
  refine rw_p rfl rfl (y_conv rfl is3 it35 (u64N.trans (by rw [Nat.mod_eq_of_lt (by omega)]))) ?_
  refine rw_p rfl rfl (y_mul rfl rfl (u_mul (b := 8) (by omega))) ?_
  refine rw_p rfl rfl (y_assign rfl) ?_
  refine rw_done ?_
  refine gn_sq ?_
  refine HW_seq rfl ?_
  refine HW_text (.act 0 (.pure 1 (.pure 2 (.pure 3 (.pure 4 (.pure 5 (.pure 6 (.pure 7 (.act 8 (.pure 9 .done)))))))))) (by kernel_rfl) ?_
  refine a_buildSlice (l := [_]) rfl rfl sl27 z5 rfl rfl rfl rfl rfl rfl rfl hm trivial fun m2 w hg_m2 hm hh => ?_
  refine rw_p rfl rfl (y_move rfl) ?_
  have hPn := (hZe ▸ OwnZ.right (A := [_, _]) hm.ownZ).get (k := 0) rfl
  refine rw_p rfl rfl (y_nil rfl) ?_
  refine rw_p rfl rfl (y_fieldAddr rfl fo118_1) ?_
  refine rw_p rfl rfl (y_load rfl sc27 (nowT hPn) rfl) ?_
  refine rw_p rfl rfl (y_len rfl rfl sl27) ?_
  refine rw_p rfl rfl (y_sub rfl rfl (subK (a := 119) _ (by omega) (by decide))) ?_
  refine rw_p rfl rfl (y_rem rfl rfl (by decide) ((remK _ 64).trans (by rw [hpz]))) ?_
  refine a_appendZ rfl rfl rfl rfl rfl rfl sl27 it3 z5 rfl rfl (Acc.row rfl) hm 0 rfl (by unfold Pl.padZ; omega) (by unfold Pl.padZ; omega) fun p_e cap_e g_e b_e w ha_e hm => ?_
  replace ha_e := ha_e.to (show _ = ([128] ++ List.replicate (Pl.padZ msg.length) 0 ++ (Pl.beN (msg.length * 8) 8).take 0).flatMap encB by rw [repB, List.take_zero, List.append_nil, List.flatMap_append]; rfl)
  have hne := ha_e.lenB
  rw [hne] at ha_e
  refine rw_p rfl rfl (y_assign rfl) ?_
  refine rw_done ?_
  refine gn_sq ?_
  refine HW_seq rfl ?_
  refine HW_seq rfl ?_
  refine HW_text (.pure 0 .done) (by kernel_rfl) ?_
  refine rw_p rfl rfl (y_assign rfl) ?_
  refine rw_done ?_
  refine gn_sq ?_
  refine HW_block rfl ?_
  refine HW_loopK (ι := Nat × Option Addr × Nat × Nat × Blk) rfl (ks := [0, 2, 3]) (.cons rfl (.cons rfl (.cons rfl .nil))) (fun x => [(5, .int .i64 (7 - (x.1 : Int))), (4, .slice x.2.1 ([128] ++ List.replicate (Pl.padZ msg.length) 0 ++ (Pl.beN (msg.length * 8) 8).take x.1).length x.2.2.1)]) (fun x w => Mem w0 w (Mn (reals Z)) ((x.2.2.2.1, x.2.2.2.2) :: (m1, .row 62 ((List.replicate 32 (0 : UInt8)).flatMap encB)) :: Z) ∧ Acc 5 1 x.2.1 ([128] ++ List.replicate (Pl.padZ msg.length) 0 ++ (Pl.beN (msg.length * 8) 8).take x.1).length x.2.2.1 (([128] ++ List.replicate (Pl.padZ msg.length) 0 ++ (Pl.beN (msg.length * 8) 8).take x.1).flatMap encB) x.2.2.2.1 x.2.2.2.2 ∧ x.1 ≤ 8) (fun x => 8 - x.1) (0, p_e, cap_e, g_e, b_e) (⟨hm, ha_e, Nat.zero_le _⟩) ⟨rfl, congrArg (fun z => some (Value.slice p_e z cap_e)) hne, trivial⟩ (fun x w hM => ?_)
  obtain ⟨hm, ha_e, hk⟩ := hM
  refine HW_seq rfl ?_
  refine HW_seq rfl ?_
  refine HW_text (.pure 0 (.pure 1 .done)) (by kernel_rfl) ?_
  refine rw_p rfl rfl (y_move rfl) ?_
  refine rw_p rfl rfl (y_ge rfl rfl) ?_
  refine rw_done ?_
  refine gn_sq ?_
  refine HW_cond rfl rfl (fun hc0 => ?_) (fun hc0 => ?_)
  ·
    simp only [decide_eq_true_eq] at hc0
    obtain ⟨y, p_e, cap_e, g_e, b_e⟩ := x
    simp only at hm ha_e hk hc0 ⊢
    have hel : ([128] ++ List.replicate (Pl.padZ msg.length) 0 ++ (Pl.beN (msg.length * 8) 8).take y).length ≤ 100 := by simp only [List.length_append, List.length_replicate, List.length_take, Pl.beN_len, List.length_cons, List.length_nil]; unfold Pl.padZ; omega
    have hbn := Pl.beN_get (msg.length * 8) 8 y (by omega)
    refine HW_skip rfl ?_
    refine gn_sq ?_
    refine HW_seq rfl ?_
    refine HW_block rfl ?_
    refine HW_text (.pure 0 (.pure 1 (.pure 2 (.pure 3 (.pure 4 (.pure 5 (.act 6 (.act 7 (.pure 8 .done))))))))) (by kernel_rfl) ?_
    refine rw_p rfl rfl (y_move rfl) ?_
    refine rw_p rfl rfl (y_move rfl) ?_
    refine rw_p rfl rfl (y_move rfl) ?_
    refine rw_p rfl rfl (y_mul rfl rfl (i64w (by omega) (by omega))) ?_
    refine rw_p rfl rfl (y_shr rfl rfl (by omega) rfl) ?_
    refine rw_p rfl rfl (y_conv rfl is35 it5 (be_shift (y := y) (by omega) rfl)) ?_
    refine a_buildSlice (l := [_]) rfl rfl sl27 z5 rfl rfl rfl rfl rfl rfl rfl hm trivial fun m3 w hg_m3 hm hh => ?_
    refine a_append rfl rfl rfl rfl rfl rfl sl27 sl27 z5 rfl rfl (Rd.row0 (hm.get (k := 0) rfl)) rfl ha_e hm 1 rfl (by omega) (by omega) fun p_e cap_e g_e b_e w ha_e hm => ?_
    replace ha_e := ha_e.to (show _ = ([128] ++ List.replicate (Pl.padZ msg.length) 0 ++ (Pl.beN (msg.length * 8) 8).take (y + 1)).flatMap encB by rw [List.take_add_one, hbn, Option.toList, ← List.append_assoc, List.flatMap_append (xs := ([128] ++ List.replicate (Pl.padZ msg.length) 0 ++ (Pl.beN (msg.length * 8) 8).take y))]; rfl)
    have hne := ha_e.lenB
    refine rw_p rfl rfl (y_assign rfl) ?_
    refine rw_done ?_
    refine gn_bl ?_
    refine gn_sq ?_
    refine HW_text (.pure 0 (.pure 1 (.pure 2 .done))) (by kernel_rfl) ?_
    refine rw_p rfl rfl (y_move rfl) ?_
    refine rw_p rfl rfl (y_sub rfl rfl (i64w (by omega) (by omega))) ?_
    refine rw_p rfl rfl (y_assign rfl) ?_
    refine rw_done ?_
    refine next (y + 1, p_e, cap_e, g_e, b_e) (by simp only; omega) ⟨(hm.pickT [1, 2] 3 rfl), ?_, by simp only; omega⟩ ⟨congrArg (fun z => some (Value.int .i64 z)) (show (7 : Int) - (y : Int) - 1 = 7 - ((y + 1 : Nat) : Int) by omega), congrArg (fun z => some (Value.slice p_e z cap_e)) hne, rfl, rfl, rfl, trivial⟩
    simp only
    rw [← hne]
    exact ha_e
  ·
    simp only [decide_eq_false_iff_not] at hc0
    obtain ⟨y, p_e, cap_e, g_e, b_e⟩ := x
    simp only at hm ha_e hk hc0 ⊢
    obtain rfl : y = 8 := by omega
    have hee : ([128] ++ List.replicate (Pl.padZ msg.length) 0 ++ (Pl.beN (msg.length * 8) 8).take 8) = Pl.shPad msg.length := by unfold Pl.shPad; rw [List.take_of_length_le (by rw [Pl.beN_len]; exact Nat.le_refl _)]
    rw [hee] at ha_e ⊢
    have hpl := (Pl.shPad_len msg.length).2
    refine HW_exit rfl ?_
    refine gx_sq (gx_lp ?_)
    refine gx_here ?_
    refine gn_sq ?_
    refine HW_seq rfl ?_
    refine HW_text (.pure 0 (.pure 1 (.act 2 .done))) (by kernel_rfl) ?_
    refine rw_p rfl rfl (y_move rfl) ?_
    refine rw_p rfl rfl (y_move rfl) ?_
    refine a_call rfl rfl rfl go62 (h_take (Pl.shPad msg.length) p_e cap_e TT m msg Z _ (OwnZ.right (A := [_, _]) hm.ownZ) hz hml (ha_e.rd hm 0 rfl) (fun hn ad e h9 => by have q9 := ha_e.at9 hn; rw [q9.1] at e; cases e; exact Mem.notT (A := [_, _]) hm (k := 0) rfl q9.2 h9) (by omega)) fun v w hR => ?_
    obtain ⟨rfl, Z9, hz9, hmc⟩ := hR
    refine ⟨trivial, ?_⟩
    replace hm := Mem.callZL (A := [_, _]) hm hmc
    obtain ⟨p9, cap9, g9, b9, rfl, ha9⟩ := hz9
    refine rw_done ?_
    refine gn_sq ?_
    refine HW_seq rfl ?_
    refine HW_text (.act 0 .done) (by kernel_rfl) ?_
    refine a_alloc rfl rfl z62 hm trivial fun m3 w hg_m3 hm hh => ?_
    refine rw_done ?_
    refine gn_sq ?_
    refine HW_seq rfl ?_
    refine HW_seq rfl ?_
    refine HW_text (.pure 0 .done) (by kernel_rfl) ?_
    refine rw_p rfl rfl (y_move rfl) ?_
    refine rw_done ?_
    refine gn_sq ?_
    refine HW_block rfl ?_
    refine HW_loopK (ι := Nat) rfl (ks := [0, 2, 6]) (.cons rfl (.cons rfl (.cons rfl .nil))) (fun x => [(38, .int .i64 x)]) (fun x w => Mem w0 w (Mn (reals Z)) [(m3, .row 62 (((Pl.shOut (Pl.shSt (msg ++ Pl.shPad msg.length))).take x ++ List.replicate (32 - x) 0).flatMap encB)), (m, .row TT (stV (Pl.shSt (msg ++ Pl.shPad msg.length)) (.slice p9 (Pl.shRest (msg ++ Pl.shPad msg.length)).length cap9) ((msg ++ Pl.shPad msg.length).length : Int))), (m1, .row 62 ((List.replicate 32 (0 : UInt8)).flatMap encB))] ∧ x ≤ 32) (fun x => 32 - x) 0 (⟨by rw [List.take_zero, List.nil_append, Nat.sub_zero]; exact (hm.pick [0, 3, 2] rfl), Nat.zero_le _⟩) ⟨rfl, trivial⟩ (fun x w hM => ?_)
    obtain ⟨hm, hk⟩ := hM
    refine HW_seq rfl ?_
    refine HW_text (.pure 0 .done) (by kernel_rfl) ?_
    refine rw_p rfl rfl (y_lt rfl rfl) ?_
    refine rw_done ?_
    refine gn_sq ?_
    refine HW_seq rfl ?_
    refine HW_cond rfl rfl (fun hc1 => ?_) (fun hc1 => ?_)
    ·
      simp only [decide_eq_true_eq] at hc1
      have hog := Pl.shOut_get (Pl.shSt (msg ++ Pl.shPad msg.length)) (i := x) (by omega)
      refine HW_skip rfl ?_
      refine gn_sq ?_
      refine HW_seq rfl ?_
      refine HW_block rfl ?_
      refine HW_seq rfl ?_
      refine HW_text (.pure 0 (.pure 1 .done)) (by kernel_rfl) ?_
      refine rw_p rfl rfl (y_move rfl) ?_
      refine rw_p rfl rfl (y_assign rfl) ?_
      refine rw_done ?_
      refine gn_sq ?_
      refine HW_text (.pure 0 (.pure 1 (.pure 2 (.pure 3 (.pure 4 (.pure 5 (.pure 6 (.pure 7 (.pure 8 (.pure 9 (.pure 10 (.pure 11 (.pure 12 (.pure 13 (.pure 14 (.act 15 .done)))))))))))))))) (by kernel_rfl) ?_
      refine rw_p rfl rfl (y_move rfl) ?_
      refine rw_p rfl rfl (y_move rfl) ?_
      refine rw_p rfl rfl (y_move rfl) ?_
      refine rw_p rfl rfl (y_quo rfl rfl (by decide) (quoK x 4 (by omega) (by decide))) ?_
      refine rw_p rfl rfl (y_nil rfl) ?_
      refine rw_p rfl rfl (y_fieldAddr rfl fo118_0) ?_
      refine rw_p rfl rfl (y_indexP rfl rfl ar116 (Int.natCast_nonneg _) (by omega)) ?_
      refine rw_p rfl rfl (y_load rfl sc115 (hm.nt 1 rfl) (stV_get (i := x / 4) (by omega))) ?_
      refine rw_p rfl rfl (y_move rfl) ?_
      refine rw_p rfl rfl (y_rem rfl rfl (by decide) (remK x 4)) ?_
      refine rw_p rfl rfl (y_mul rfl rfl (mulN (a := x % 4) (b := 8) (by omega))) ?_
      refine rw_p rfl rfl (y_sub rfl rfl (subK (a := 24) _ (by omega) (by decide))) ?_
      refine rw_p rfl rfl (y_shr rfl rfl (Int.natCast_nonneg _) (w_shr (UInt32.ofNat (24 - x % 4 * 8)) (by rw [oN (by omega)]) (by rw [oN (by omega)]; omega))) ?_
      refine rw_p rfl rfl (y_conv rfl is115 it5 w_u8) ?_
      refine rw_p rfl rfl (y_indexP rfl rfl ar62 (Int.natCast_nonneg _) (by omega)) ?_
      refine a_store rfl rfl rfl rfl sz5 rfl hm 0 rfl (by rw [Nat.ble_eq, lenB, List.length_append, List.length_take, List.length_replicate, Pl.shOut_len]; simp only [List.length_singleton]; omega) fun w hm => ?_
      have hm2 := hm
      simp only [setB] at hm2
      rw [show (x : Int).toNat = x from rfl, setB0, fill_next (by rw [List.length_take, Pl.shOut_len]; omega) (by omega), ← Pl.take_snoc hog] at hm2
      refine rw_done ?_
      refine gn_bl ?_
      refine gn_sq ?_
      refine HW_text (.pure 0 (.pure 1 .done)) (by kernel_rfl) ?_
      refine rw_p rfl rfl (y_add rfl rfl (i64w (by omega) (by omega))) ?_
      refine rw_p rfl rfl (y_move rfl) ?_
      refine rw_done ?_
      refine next (x + 1) (by omega) ⟨hm2, by omega⟩ ⟨nx x, rfl, rfl, rfl, trivial⟩
    ·
      simp only [decide_eq_false_iff_not] at hc1
      obtain rfl : x = 32 := by omega
      rw [Nat.sub_self, List.replicate_zero, List.append_nil, List.take_of_length_le (by rw [Pl.shOut_len]; exact Nat.le_refl _)] at hm
      refine HW_exit rfl ?_
      refine gx_sq (gx_lp ?_)
      refine gx_here ?_
      refine gn_sq ?_
      refine HW_seq rfl ?_
      refine HW_text (.pure 0 (.act 1 .done)) (by kernel_rfl) ?_
      refine rw_p rfl rfl (y_loadA (s := 32) (vs := (((Pl.shOut (Pl.shSt (msg ++ Pl.shPad msg.length)))).flatMap encB)) rfl ag62 (hm.nt 0 rfl) (nthsB (Pl.shOut_len _))) ?_
      refine a_store rfl rfl rfl rfl (sz62.trans (congrArg some (lenB32 (Pl.shOut_len _)).symm)) (oneB _) hm 2 rfl (by rw [Nat.ble_eq, lenB32 (Pl.shOut_len _), lenB32 List.length_replicate]; exact Nat.le_refl 32) fun w hm => ?_
      rw [upds_all (by rw [lenB32 (Pl.shOut_len _), lenB32 List.length_replicate])] at hm
      refine rw_done ?_
      refine gn_sq ?_
      refine HW_ret rfl ?_
      refine toR (fin hret rfl (.cell rfl (run_loadVar_a (vs := (((Pl.shOut (Pl.shSt (msg ++ Pl.shPad msg.length)))).flatMap encB)) ag62 (hm.get (k := 2) rfl) (nthsB (Pl.shOut_len _))) .nil) .one ?_)
      exact ⟨rfl, _, hm⟩

theorem h_new (w0 : World) : C Try.prog 46 [] w0 fun v w' => ∃ m Z, v = .pointer (some ⟨m, 0, none⟩) ∧ HashZ 121 5 [] m Z ∧ Mem w0 w' No Z := by
  refine C_of Try.func46 rfl rfl rfl fun κ hret hnorm => ?_
  have hm := Mem.start w0
  refine HW_seq rfl ?_
  refine HW_text (.pure 0 .done) (by kernel_rfl) ?_
  refine rw_p rfl rfl (y_assign rfl) ?_
  refine rw_done ?_
  refine gn_sq ?_
  refine HW_seq rfl ?_
  refine HW_text (.act 0 (.pure 1 (.act 2 (.pure 3 .done)))) (by kernel_rfl) ?_
  refine a_call rfl rfl rfl go60 (h_initial _) fun v w hR => ?_
  obtain ⟨rfl, hE⟩ := hR
  refine ⟨trivial, ?_⟩
  replace hm := hm.ext hE
  refine rw_p rfl rfl (y_build (cs := [_, _, _, _, _, _, _, _, _, _]) z121 ft121 rfl rfl rfl rfl rfl) ?_
  refine a_box rfl rfl rfl rfl hm trivial fun m1 w hg_m1 hm hh => ?_
  refine rw_p rfl rfl (y_assign rfl) ?_
  refine rw_done ?_
  refine gn_sq ?_
  refine HW_ret rfl ?_
  refine toR (fin hret rfl (.tmp rfl .nil) .one ?_)
  exact ⟨_, _, rfl, ⟨none, 0, 0, .gap, rfl, (Acc.nil _ _ _ _).o⟩, (hm.gapIn.pick [1, 0] rfl)⟩

set_option maxHeartbeats 800000 in
theorem h_write (q : Option Addr) (cq : Nat) (ps : List SB) (TT m : Nat) (msg : List UInt8) (Z : List (Nat × Blk)) (w0 : World) (hZ : OwnZ w0 Z) (hz : HashZ TT 5 msg m Z) (hml : msg.length ≤ 1000000000000) (hq : Rd w0 q (ps.flatMap encS)) (hps : ∀ s ∈ ps, Rd w0 s.p (s.bs.flatMap encB)) (hqa : ps.flatMap encS ≠ [] → ∀ ad, q = some ad → ¬ Mn (reals Z) ad.block) (hpa : ∀ s ∈ ps, s.bs.flatMap encB ≠ [] → ∀ ad, s.p = some ad → ¬ Mn (reals Z) ad.block) (hl : ps.length ≤ 1000000000000) (hbl : msg.length + (ps.flatMap (·.bs)).length ≤ 1000000000000) : C Try.prog 48 [.pointer (some ⟨m, 0, none⟩), .slice q ps.length cq] w0 fun v w' => v = .int .i64 ((ps.flatMap (·.bs)).length : Int) ∧ ∃ Z', HashZ TT 5 (msg ++ (ps.flatMap (·.bs))) m Z' ∧ Mem w0 w' (Mn (reals Z)) Z' := by
  refine C_of Try.func48 rfl rfl rfl fun κ hret hnorm => ?_
  have hm := hZ.start
  refine HW_seq rfl ?_
  refine HW_text (.pure 0 .done) (by kernel_rfl) ?_
  refine rw_p rfl rfl (y_assign rfl) ?_
  refine rw_done ?_
  refine gn_sq ?_
  refine HW_seq rfl ?_
  refine HW_seq rfl ?_
  refine HW_text (.pure 0 (.pure 1 .done)) (by kernel_rfl) ?_
  refine rw_p rfl rfl (y_move rfl) ?_
  refine rw_p rfl rfl (y_pnil rfl rfl pb99) ?_
  refine rw_done ?_
  refine gn_sq ?_
  refine HW_condF rfl rfl rfl ?_
  refine HW_skip rfl ?_
  refine gn_sq ?_
  refine HW_seq rfl ?_
  refine HW_text (.pure 0 (.pure 1 (.pure 2 (.pure 3 (.pure 4 (.pure 5 .done)))))) (by kernel_rfl) ?_
  refine rw_p rfl rfl (y_move rfl) ?_
  obtain ⟨rv_, hPn⟩ := hz.row hZ
  refine rw_p rfl rfl (y_nil rfl) ?_
  refine rw_p rfl rfl (y_fieldAddr rfl fo121_0) ?_
  refine rw_p rfl rfl (y_fieldAddr rfl fo118_2) ?_
  refine rw_p rfl rfl (y_load rfl sc3 (nowT hPn) rfl) ?_
  refine rw_p rfl rfl (y_assign rfl) ?_
  refine rw_done ?_
  refine gn_sq ?_
  refine HW_seq rfl ?_
  refine HW_seq rfl ?_
  refine HW_text (.pure 0 (.pure 1 (.pure 2 .done))) (by kernel_rfl) ?_
  refine rw_p rfl rfl (y_move rfl) ?_
  refine rw_p rfl rfl (y_len rfl rfl sl96) ?_
  refine rw_p rfl rfl (y_move rfl) ?_
  refine rw_done ?_
  refine gn_sq ?_
  refine HW_block rfl ?_
  refine HW_loopK (ι := Nat × List (Nat × Blk)) rfl (ks := [0, 4, 5, 15, 16]) (.cons rfl (.cons rfl (.cons rfl (.cons rfl (.cons rfl .nil))))) (fun x => [(17, .int .i64 x.1)]) (fun x w => Mem w0 w (Mn (reals Z)) x.2 ∧ HashZ TT 5 (msg ++ (ps.take x.1).flatMap (·.bs)) m x.2 ∧ x.1 ≤ ps.length) (fun x => ps.length - x.1) (0, Z) (⟨hm, by simpa using hz, Nat.zero_le _⟩) ⟨rfl, trivial⟩ (fun x w hM => ?_)
  obtain ⟨hm, hz_h, hk⟩ := hM
  refine HW_seq rfl ?_
  refine HW_text (.pure 0 .done) (by kernel_rfl) ?_
  refine rw_p rfl rfl (y_lt rfl rfl) ?_
  refine rw_done ?_
  refine gn_sq ?_
  refine HW_seq rfl ?_
  refine HW_cond rfl rfl (fun hc1 => ?_) (fun hc1 => ?_)
  ·
    obtain ⟨x, Z_h⟩ := x
    simp only at hm hz_h hk hc1 ⊢
    simp only [decide_eq_true_eq] at hc1
    obtain ⟨s, hi⟩ : ∃ y_, ps[x]? = some y_ := ⟨_, List.getElem?_eq_getElem (by omega)⟩
    obtain ⟨b2, o2, hp2⟩ := hq.atI encS_len (by decide) hi
    have hsm := List.mem_of_getElem? hi
    have hft := flat_take hi
    have hfl := flat_le ps x
    have hfl1 := flat_le ps (x + 1)
    rw [hft, List.length_append] at hfl1
    refine HW_skip rfl ?_
    refine gn_sq ?_
    refine HW_seq rfl ?_
    refine HW_block rfl ?_
    refine HW_seq rfl ?_
    refine HW_text (.pure 0 (.pure 1 (.pure 2 .done))) (by kernel_rfl) ?_
    refine rw_p rfl rfl (y_index rfl rfl sl96 hp2 (by omega) (by omega)) ?_
    refine rw_p rfl rfl (y_el1 rfl sc27 (hp2 ▸ hq.extN hm.to hqa).nt encS_len hi rfl) ?_
    refine rw_p rfl rfl (y_assign rfl) ?_
    refine rw_done ?_
    refine gn_sq ?_
    refine HW_text (.pure 0 (.pure 1 (.pure 2 (.pure 3 (.act 4 .done))))) (by kernel_rfl) ?_
    refine rw_p rfl rfl (y_move rfl) ?_
    refine rw_p rfl rfl (y_nil rfl) ?_
    refine rw_p rfl rfl (y_fieldAddr rfl fo121_0) ?_
    refine rw_p rfl rfl (y_move rfl) ?_
    refine a_call rfl rfl rfl go62 (h_take s.bs s.p s.cap TT m _ Z_h _ hm.ownZ hz_h (by rw [List.length_append]; omega) ((hps s hsm).extN hm.to (hpa s hsm)) (hm.apartX (hps s hsm) (hpa s hsm)) (by omega)) fun v w hR => ?_
    obtain ⟨rfl, Z_h, hz_h, hmc⟩ := hR
    refine ⟨trivial, ?_⟩
    replace hm := Mem.callZL (A := []) hm hmc
    refine rw_done ?_
    refine gn_bl ?_
    refine gn_sq ?_
    refine HW_text (.pure 0 (.pure 1 .done)) (by kernel_rfl) ?_
    refine rw_p rfl rfl (y_add rfl rfl (i64w (by omega) (by omega))) ?_
    refine rw_p rfl rfl (y_move rfl) ?_
    refine rw_done ?_
    refine next (x + 1, Z_h) (by simp only; omega) ⟨hm, by simp only; rw [hft, ← List.append_assoc]; exact hz_h, by simp only; omega⟩ ⟨nx x, rfl, rfl, rfl, rfl, rfl, trivial⟩
  ·
    obtain ⟨x, Z_h⟩ := x
    simp only at hm hz_h hk hc1 ⊢
    simp only [decide_eq_false_iff_not] at hc1
    obtain rfl : x = ps.length := by omega
    rw [List.take_length] at hz_h
    refine HW_exit rfl ?_
    refine gx_sq (gx_lp ?_)
    refine gx_here ?_
    refine gn_sq ?_
    refine HW_seq rfl ?_
    refine HW_text (.pure 0 (.pure 1 (.pure 2 (.pure 3 (.pure 4 (.pure 5 (.pure 6 (.pure 7 .done)))))))) (by kernel_rfl) ?_
    refine rw_p rfl rfl (y_move rfl) ?_
    obtain ⟨rv_, hPn⟩ := hz_h.row hm.ownZ
    refine rw_p rfl rfl (y_nil rfl) ?_
    refine rw_p rfl rfl (y_fieldAddr rfl fo121_0) ?_
    refine rw_p rfl rfl (y_fieldAddr rfl fo118_2) ?_
    refine rw_p rfl rfl (y_load rfl sc3 (nowT hPn) rfl) ?_
    refine rw_p rfl rfl (y_move rfl) ?_
    refine rw_p rfl rfl (y_sub rfl rfl ((subK _ (by rw [List.length_append]; omega) (by rw [List.length_append]; omega)).trans (show _ = (((ps.flatMap (·.bs)).length : Nat) : Int) by rw [List.length_append, Nat.add_sub_cancel_left]))) ?_
    refine rw_p rfl rfl (y_assign rfl) ?_
    refine rw_done ?_
    refine gn_sq ?_
    refine HW_ret rfl ?_
    refine toR (fin hret rfl (.tmp rfl .nil) .one ?_)
    exact ⟨rfl, Z_h, hz_h, hm⟩

theorem h_writeN (q : Option Addr) (n cq : Nat) (w0 : World) : C Try.prog 48 [.pointer none, .slice q n cq] w0 fun v w' => v = .int .i64 0 ∧ Ext No w0 w' := by
  refine C_of Try.func48 rfl rfl rfl fun κ hret hnorm => ?_
  have hm := Mem.start w0
  refine HW_seq rfl ?_
  refine HW_text (.pure 0 .done) (by kernel_rfl) ?_
  refine rw_p rfl rfl (y_assign rfl) ?_
  refine rw_done ?_
  refine gn_sq ?_
  refine HW_seq rfl ?_
  refine HW_seq rfl ?_
  refine HW_text (.pure 0 (.pure 1 .done)) (by kernel_rfl) ?_
  refine rw_p rfl rfl (y_move rfl) ?_
  refine rw_p rfl rfl (y_pnil rfl rfl pb99) ?_
  refine rw_done ?_
  refine gn_sq ?_
  refine HW_condT rfl rfl rfl ?_
  refine HW_seq rfl ?_
  refine HW_text (.pure 0 .done) (by kernel_rfl) ?_
  refine rw_p rfl rfl (y_assign rfl) ?_
  refine rw_done ?_
  refine gn_sq ?_
  refine HW_ret rfl ?_
  refine gr_sq ?_
  refine toR (fin hret rfl (.tmp rfl .nil) .one ?_)
  exact ⟨rfl, hm.to⟩

set_option maxHeartbeats 800000 in
theorem h_sum (TT m : Nat) (msg : List UInt8) (Z : List (Nat × Blk)) (w0 : World) (hZ : OwnZ w0 Z) (hz : HashZ TT 5 msg m Z) (hml : msg.length ≤ 1000000000000) : C Try.prog 49 [.pointer (some ⟨m, 0, none⟩)] w0 fun v w' => v = .agg ⟨(Pl.sha msg).flatMap encB⟩ ∧ Ext No w0 w' := by
  refine C_of Try.func49 rfl rfl rfl fun κ hret hnorm => ?_
  have hm := Mem.start w0
  refine HW_seq rfl ?_
  refine HW_text (.act 0 .done) (by kernel_rfl) ?_
  refine a_alloc rfl rfl z62 hm trivial fun m1 w hg_m1 hm hh => ?_
  refine rw_done ?_
  refine gn_sq ?_
  refine HW_seq rfl ?_
  refine HW_seq rfl ?_
  refine HW_text (.pure 0 (.pure 1 .done)) (by kernel_rfl) ?_
  refine rw_p rfl rfl (y_move rfl) ?_
  refine rw_p rfl rfl (y_pnil rfl rfl pb99) ?_
  refine rw_done ?_
  refine gn_sq ?_
  refine HW_condF rfl rfl rfl ?_
  refine HW_skip rfl ?_
  refine gn_sq ?_
  refine HW_seq rfl ?_
  refine HW_text (.pure 0 (.pure 1 (.pure 2 (.act 3 (.act 4 (.act 5 .done)))))) (by kernel_rfl) ?_
  refine rw_p rfl rfl (y_move rfl) ?_
  refine rw_p rfl rfl (y_nil rfl) ?_
  refine rw_p rfl rfl (y_fieldAddr rfl fo121_0) ?_
  refine a_call rfl rfl rfl go63 (h_copied TT m msg Z _ (hZ.ext hm.to) hz hml) fun v w hR => ?_
  obtain ⟨p_s, cap_s, g_s, b_s, rfl, ha_s, hmc⟩ := hR
  refine ⟨trivial, ?_⟩
  replace hm := hm.callN hmc
  refine a_alloc rfl rfl z118 hm trivial fun m2 w hg_m2 hm hh => ?_
  refine a_store rfl rfl rfl rfl sz118 rfl hm 0 rfl rfl fun w hm => ?_
  refine rw_done ?_
  refine gn_sq ?_
  refine HW_seq rfl ?_
  refine HW_text (.act 0 (.act 1 .done)) (by kernel_rfl) ?_
  refine a_call rfl rfl rfl go64 (h_finish 118 m2 msg _ _ (OwnZ.left (A := [_, _]) hm.ownZ) ⟨p_s, cap_s, g_s, b_s, rfl, ha_s.o⟩ hml) fun v w hR => ?_
  obtain ⟨rfl, Z9, hmc⟩ := hR
  refine ⟨trivial, ?_⟩
  replace hm := (Mem.callZ (Z := [_, _]) hm hmc).right
  refine a_store rfl rfl rfl rfl (sz62.trans (congrArg some (lenB32 (Pl.sha_len _)).symm)) (oneB _) hm 0 rfl (by rw [Nat.ble_eq, lenB32 (Pl.sha_len _)]; exact Nat.le_refl 32) fun w hm => ?_
  rw [upds_z32 (Pl.sha_len _)] at hm
  refine rw_done ?_
  refine gn_sq ?_
  refine HW_ret rfl ?_
  refine toR (fin hret rfl (.cell rfl (run_loadVar_a (vs := ((Pl.sha msg).flatMap encB)) ag62 (hm.get (k := 0) rfl) (nthsB (Pl.sha_len _))) .nil) .one ?_)
  exact ⟨rfl, hm.to⟩

theorem h_sumN (w0 : World) : C Try.prog 49 [.pointer none] w0 fun v w' => v = .agg ⟨(List.replicate 32 (0 : UInt8)).flatMap encB⟩ ∧ Ext No w0 w' := by
  refine C_of Try.func49 rfl rfl rfl fun κ hret hnorm => ?_
  have hm := Mem.start w0
  refine HW_seq rfl ?_
  refine HW_text (.act 0 .done) (by kernel_rfl) ?_
  refine a_alloc rfl rfl z62 hm trivial fun m1 w hg_m1 hm hh => ?_
  refine rw_done ?_
  refine gn_sq ?_
  refine HW_seq rfl ?_
  refine HW_seq rfl ?_
  refine HW_text (.pure 0 (.pure 1 .done)) (by kernel_rfl) ?_
  refine rw_p rfl rfl (y_move rfl) ?_
  refine rw_p rfl rfl (y_pnil rfl rfl pb99) ?_
  refine rw_done ?_
  refine gn_sq ?_
  refine HW_condT rfl rfl rfl ?_
  refine HW_seq rfl ?_
  refine HW_text (.pure 0 (.act 1 .done)) (by kernel_rfl) ?_
  refine rw_p rfl rfl (y_build (cs := [_, _, _, _, _, _, _, _, _, _, _, _, _, _, _, _, _, _, _, _, _, _, _, _, _, _, _, _, _, _, _, _]) z62 ft62 rfl rfl rfl rfl rfl) ?_
  refine a_store rfl rfl rfl rfl sz62 rfl hm 0 rfl rfl fun w hm => ?_
  refine rw_done ?_
  refine gn_sq ?_
  refine HW_ret rfl ?_
  refine gr_sq ?_
  refine toR (fin hret rfl (.cell rfl (run_loadVar_a (vs := [_, _, _, _, _, _, _, _, _, _, _, _, _, _, _, _, _, _, _, _, _, _, _, _, _, _, _, _, _, _, _, _]) ag62 (hm.get (k := 0) rfl) rfl) .nil) .one ?_)
  exact ⟨rfl, hm.to⟩

end Go.Proofs.Ytkllojjpaelmhaa
