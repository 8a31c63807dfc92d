/- Contracts of functions of the program: what each returns. Conditions: the hypotheses of each theorem. -/
import Derived.Test.YtdiklnekplhhgaaChecked
import Derived.Test.YtdiklnekplhhgaaCyB
import Derived.Test.YtdiklnekplhhgaaByt
set_option linter.unusedVariables false
set_option linter.unusedSimpArgs false
namespace Go.Proofs.Ytdiklnekplhhgaa
open Go Go.Cx

theorem is3 : (Try.prog.underlying 3).isSome = true := by kernel_rfl
theorem it57 : intO Try.prog 57 = some .u64 := by kernel_rfl
theorem ag69 : aggS Try.prog 69 = some 64 := by kernel_rfl
theorem ft69 : fldT Try.prog 69 = some [(0, 1), (1, 1), (2, 1), (3, 1), (4, 1), (5, 1), (6, 1), (7, 1), (8, 1), (9, 1), (10, 1), (11, 1), (12, 1), (13, 1), (14, 1), (15, 1), (16, 1), (17, 1), (18, 1), (19, 1), (20, 1), (21, 1), (22, 1), (23, 1), (24, 1), (25, 1), (26, 1), (27, 1), (28, 1), (29, 1), (30, 1), (31, 1), (32, 1), (33, 1), (34, 1), (35, 1), (36, 1), (37, 1), (38, 1), (39, 1), (40, 1), (41, 1), (42, 1), (43, 1), (44, 1), (45, 1), (46, 1), (47, 1), (48, 1), (49, 1), (50, 1), (51, 1), (52, 1), (53, 1), (54, 1), (55, 1), (56, 1), (57, 1), (58, 1), (59, 1), (60, 1), (61, 1), (62, 1), (63, 1)] := by kernel_rfl
theorem sz69 : szO Try.prog 69 = some 64 := by kernel_rfl
theorem z69 : zer Try.prog 69 = some [.int .u32 0, .int .u32 0, .int .u32 0, .int .u32 0, .int .u32 0, .int .u32 0, .int .u32 0, .int .u32 0, .int .u32 0, .int .u32 0, .int .u32 0, .int .u32 0, .int .u32 0, .int .u32 0, .int .u32 0, .int .u32 0, .int .u32 0, .int .u32 0, .int .u32 0, .int .u32 0, .int .u32 0, .int .u32 0, .int .u32 0, .int .u32 0, .int .u32 0, .int .u32 0, .int .u32 0, .int .u32 0, .int .u32 0, .int .u32 0, .int .u32 0, .int .u32 0, .int .u32 0, .int .u32 0, .int .u32 0, .int .u32 0, .int .u32 0, .int .u32 0, .int .u32 0, .int .u32 0, .int .u32 0, .int .u32 0, .int .u32 0, .int .u32 0, .int .u32 0, .int .u32 0, .int .u32 0, .int .u32 0, .int .u32 0, .int .u32 0, .int .u32 0, .int .u32 0, .int .u32 0, .int .u32 0, .int .u32 0, .int .u32 0, .int .u32 0, .int .u32 0, .int .u32 0, .int .u32 0, .int .u32 0, .int .u32 0, .int .u32 0, .int .u32 0] := by kernel_rfl
theorem ag49 : aggS Try.prog 49 = some 8 := by kernel_rfl
theorem ar49 : arrO Try.prog 49 = some (8, 48, 1) := by kernel_rfl
theorem ar68 : arrO Try.prog 68 = some (16, 48, 1) := by kernel_rfl
theorem ar69 : arrO Try.prog 69 = some (64, 48, 1) := by kernel_rfl
theorem fo51_0 : fldO Try.prog 51 0 = some 0 := by kernel_rfl
theorem go39 : isGo Try.prog 39 = true := by kernel_rfl
theorem go40 : isGo Try.prog 40 = true := by kernel_rfl
theorem is5 : (Try.prog.underlying 5).isSome = true := by kernel_rfl
theorem it48 : intO Try.prog 48 = some .u32 := by kernel_rfl
theorem mix : Try.prog.follows .mixedOrders = true := by kernel_rfl
theorem sc48 : scal Try.prog 48 = true := by kernel_rfl
theorem sc5 : scal Try.prog 5 = true := by kernel_rfl
theorem sl44 : slcO Try.prog 44 = some (48, 1, 4) := by kernel_rfl
theorem sz48 : szO Try.prog 48 = some 1 := by kernel_rfl
theorem sz49 : szO Try.prog 49 = some 8 := by kernel_rfl
theorem z49 : zer Try.prog 49 = some [.int .u32 0, .int .u32 0, .int .u32 0, .int .u32 0, .int .u32 0, .int .u32 0, .int .u32 0, .int .u32 0] := by kernel_rfl
theorem z68 : zer Try.prog 68 = some [.int .u32 0, .int .u32 0, .int .u32 0, .int .u32 0, .int .u32 0, .int .u32 0, .int .u32 0, .int .u32 0, .int .u32 0, .int .u32 0, .int .u32 0, .int .u32 0, .int .u32 0, .int .u32 0, .int .u32 0, .int .u32 0] := by kernel_rfl

theorem m_rotl (x : UInt32) (j : Nat) (w0 : World) (h1 : 1 ≤ j) (h2 : j < 32) : C Try.prog 40 [.int .u32 ((x).toNat : Int), .int .i64 (-(j : Int))] w0 fun v w' => v = .int .u32 ((Pl.rotr x (UInt32.ofNat j)).toNat : Int) ∧ Ext No w0 w' := by
  refine C_of Try.func40 rfl rfl rfl fun κ hret hnorm => ?_
  have hm := Mem.start w0
  refine HW_seq rfl ?_
  refine HW_text (.pure 0 .done) (by kernel_rfl) ?_
  refine rw_p rfl rfl (y_assign (cW 0 rfl)) ?_
  refine rw_done ?_
  refine gn_sq ?_
  refine HW_seq rfl ?_
  refine HW_text (.pure 0 (.pure 1 (.pure 2 (.pure 3 .done)))) (by kernel_rfl) ?_
  refine rw_p rfl rfl (y_move rfl) ?_
  refine rw_p rfl rfl (y_conv rfl is3 it57 rfl) ?_
  refine rw_p rfl rfl (y_and_ rfl rfl (rot_k h1 h2)) ?_
  refine rw_p rfl rfl (y_assign rfl) ?_
  refine rw_done ?_
  refine gn_sq ?_
  refine HW_seq rfl ?_
  refine HW_text (.pure 0 (.pure 1 (.pure 2 (.pure 3 (.pure 4 (.pure 5 (.pure 6 (.pure 7 (.pure 8 .done))))))))) (by kernel_rfl) ?_
  refine rw_p rfl rfl (y_move rfl) ?_
  refine rw_p rfl rfl (y_move rfl) ?_
  refine rw_p rfl rfl (y_shl rfl rfl (by omega) (w_shl (UInt32.ofNat (32 - j)) (by rw [oN (by omega)]) (by rw [oN (by omega)]; omega))) ?_
  refine rw_p rfl rfl (y_move rfl) ?_
  refine rw_p rfl rfl (y_move rfl) ?_
  refine rw_p rfl rfl (y_sub rfl rfl (u_sub (a := 32) (by omega) (by decide))) ?_
  refine rw_p rfl rfl (y_shr rfl rfl (by omega) (w_shr (UInt32.ofNat j) (by rw [oN h2]; omega) (by rw [oN h2]; omega))) ?_
  refine rw_p rfl rfl (y_or_ rfl rfl w_or) ?_
  refine rw_p rfl rfl (y_assign rfl) ?_
  refine rw_done ?_
  refine gn_sq ?_
  refine HW_ret rfl ?_
  refine toR (fin hret rfl (.tmp rfl .nil) .one ?_)
  exact ⟨by rw [← rot_eq x h1 h2], hm.to⟩

theorem h_keys (w0 : World) : C Try.prog 39 [] w0 fun v w' => v = .agg ⟨Pl.shK.flatMap encW⟩ ∧ Ext No w0 w' := by
  refine C_of Try.func39 rfl rfl rfl fun κ hret hnorm => ?_
  have hm := Mem.start w0
  refine HW_seq rfl ?_
  refine HW_text (.act 0 .done) (by kernel_rfl) ?_
  refine a_alloc rfl rfl z69 hm trivial fun m1 w hg_m1 hm hh => ?_
  refine rw_done ?_
  refine gn_sq ?_
  refine HW_seq rfl ?_
  refine HW_text (.pure 0 (.act 1 .done)) (by kernel_rfl) ?_
  refine rw_p rfl rfl (y_build (cs := [_, _, _, _, _, _, _, _, _, _, _, _, _, _, _, _, _, _, _, _, _, _, _, _, _, _, _, _, _, _, _, _, _, _, _, _, _, _, _, _, _, _, _, _, _, _, _, _, _, _, _, _, _, _, _, _, _, _, _, _, _, _, _, _]) z69 ft69 rfl rfl rfl rfl rfl) ?_
  refine a_store rfl rfl rfl rfl sz69 rfl hm 0 rfl rfl fun w hm => ?_
  refine rw_done ?_
  refine gn_sq ?_
  refine HW_ret rfl ?_
  refine toR (fin hret rfl (.cell rfl (run_loadVar_a (vs := [_, _, _, _, _, _, _, _, _, _, _, _, _, _, _, _, _, _, _, _, _, _, _, _, _, _, _, _, _, _, _, _, _, _, _, _, _, _, _, _, _, _, _, _, _, _, _, _, _, _, _, _, _, _, _, _, _, _, _, _, _, _, _, _]) ag69 (hm.get (k := 0) rfl) rfl) .nil) .one ?_)
  exact ⟨rfl, hm.to⟩

set_option maxHeartbeats 3200000 in
set_option maxRecDepth 100000 in
theorem h_block (TT m : Nat) (s : Pl.S8) (rv : Value) (n : Int) (p : Option Addr) (cap : Nat) (bs : List UInt8) (w0 : World) (hP : w0.heap[m]? = some (Blk.row TT (stV s rv n)).toObj) (hx : Rd w0 p (bs.flatMap encB)) (hap : bs.flatMap encB ≠ [] → ∀ ad, p = some ad → ¬ (ad.block = m)) (hl : bs.length = 64) : C Try.prog 34 [.pointer (some ⟨m, 0, none⟩), .slice p 64 cap] w0 fun v w' => v = .tuple ⟨[]⟩ ∧ Mem w0 w' (fun k => k = m) [(m, .row TT (stV (Pl.shBlock s bs) rv n))] := by
  obtain ⟨x0_, hx0_⟩ : ∃ y_, bs[0]? = some y_ := ⟨_, List.getElem?_eq_getElem (by omega)⟩
  obtain ⟨b2, o2, hp4⟩ := hx.atI encB_len (by decide) hx0_
  refine C_of Try.func34 rfl rfl rfl fun κ hret hnorm => ?_
  have hm := Mem.start1 hP
  refine HW_seq rfl ?_
  refine HW_text (.act 0 .done) (by kernel_rfl) ?_
  refine a_alloc rfl rfl z68 hm trivial fun m1 w hg_m1 hm hh => ?_
  refine rw_done ?_
  refine gn_sq ?_
  refine HW_seq rfl ?_
  refine HW_seq rfl ?_
  refine HW_text (.pure 0 .done) (by kernel_rfl) ?_
  refine rw_p rfl rfl (y_move rfl) ?_
  refine rw_done ?_
  refine gn_sq ?_
  refine HW_block rfl ?_
  refine HW_loopK (ι := Nat) rfl (ks := [0, 1, 4]) (.cons rfl (.cons rfl (.cons rfl .nil))) (fun x => [(21, .int .i64 x)]) (fun x w => Mem w0 w (fun k => k = m) [(m1, .row 68 ((Pl.wordsB bs x ++ List.replicate (16 - x) 0).flatMap encW)), (m, (.row TT (stV s rv n)))] ∧ x ≤ 16) (fun x => 16 - x) 0 (⟨hm, Nat.zero_le _⟩) ⟨rfl, trivial⟩ (fun x w hM => ?_)
  obtain ⟨hm, hk⟩ := hM
  refine HW_seq rfl ?_
  refine HW_text (.pure 0 .done) (by kernel_rfl) ?_
  refine rw_p rfl rfl (y_lt rfl rfl) ?_
  refine rw_done ?_
  refine gn_sq ?_
  refine HW_seq rfl ?_
  refine HW_cond rfl rfl (fun hc0 => ?_) (fun hc0 => ?_)
  ·
    simp only [decide_eq_true_eq] at hc0
    obtain ⟨c0, hi0⟩ : ∃ y_, bs[4 * x + 0]? = some y_ := ⟨_, List.getElem?_eq_getElem (by omega)⟩
    obtain ⟨c1, hi1⟩ : ∃ y_, bs[4 * x + 1]? = some y_ := ⟨_, List.getElem?_eq_getElem (by omega)⟩
    obtain ⟨c2, hi2⟩ : ∃ y_, bs[4 * x + 2]? = some y_ := ⟨_, List.getElem?_eq_getElem (by omega)⟩
    obtain ⟨c3, hi3⟩ : ∃ y_, bs[4 * x + 3]? = some y_ := ⟨_, List.getElem?_eq_getElem (by omega)⟩
    have hwb : Pl.wordB bs x = Pl.be4 c0 c1 c2 c3 := by unfold Pl.wordB; simp only [List.getD_eq_getElem?_getD, hi1, hi2, hi3, show bs[4 * x]? = some c0 from hi0, Option.getD_some]
    refine HW_skip rfl ?_
    refine gn_sq ?_
    refine HW_seq rfl ?_
    refine HW_block rfl ?_
    refine HW_seq rfl ?_
    refine HW_text (.pure 0 (.pure 1 .done)) (by kernel_rfl) ?_
    refine rw_p rfl rfl (y_move rfl) ?_
    refine rw_p rfl rfl (y_assign rfl) ?_
    refine rw_done ?_
    refine gn_sq ?_
    refine HW_draw (.pure 0 (.pure 1 (.pure 2 (.pure 3 (.pure 4 (.pure 5 (.pure 6 (.pure 7 (.pure 8 (.pure 9 (.pure 10 (.pure 11 (.pure 12 (.pure 13 (.pure 14 (.pure 15 (.pure 16 (.pure 17 (.pure 18 (.pure 19 (.pure 20 (.pure 21 (.pure 22 (.pure 23 (.pure 24 (.pure 25 (.pure 26 (.pure 27 (.pure 28 (.pure 29 (.pure 30 (.pure 31 (.pure 32 (.cut (.pure 33 (.pure 34 (.act 35 .done))))))))))))))))))))))))))))))))))))) No mix (by kernel_rfl) hm fun w hw hm0 hh => ?_
    have hm := hm0
    refine rw_p rfl rfl (y_move rfl) ?_
    refine rw_p rfl rfl (y_move rfl) ?_
    refine rw_p rfl rfl (y_move rfl) ?_
    refine rw_p rfl rfl (y_mul rfl rfl (mulK 4 (by omega))) ?_
    refine rw_p rfl rfl (y_index rfl rfl sl22 hp4 (by omega) (by omega)) ?_
    refine rw_p rfl rfl (y_el1 rfl sc5 (hp4 ▸ hx.extN hm0.to hap).nd encB_len hi0 rfl) ?_
    refine rw_p rfl rfl (y_conv rfl is5 it48 w_of8) ?_
    refine rw_p rfl rfl (y_shl rfl rfl (by decide) (w_shl 24 rfl (by decide))) ?_
    refine rw_p rfl rfl (y_move rfl) ?_
    refine rw_p rfl rfl (y_move rfl) ?_
    refine rw_p rfl rfl (y_mul rfl rfl (mulK 4 (by omega))) ?_
    refine rw_p rfl rfl (y_add rfl rfl (addK 1 (by omega))) ?_
    refine rw_p rfl rfl (y_index rfl rfl sl22 hp4 (by omega) (by omega)) ?_
    refine rw_p rfl rfl (y_el1 rfl sc5 (hp4 ▸ hx.extN hm0.to hap).nd encB_len hi1 rfl) ?_
    refine rw_p rfl rfl (y_conv rfl is5 it48 w_of8) ?_
    refine rw_p rfl rfl (y_shl rfl rfl (by decide) (w_shl 16 rfl (by decide))) ?_
    refine rw_p rfl rfl (y_or_ rfl rfl w_or) ?_
    refine rw_p rfl rfl (y_move rfl) ?_
    refine rw_p rfl rfl (y_move rfl) ?_
    refine rw_p rfl rfl (y_mul rfl rfl (mulK 4 (by omega))) ?_
    refine rw_p rfl rfl (y_add rfl rfl (addK 2 (by omega))) ?_
    refine rw_p rfl rfl (y_index rfl rfl sl22 hp4 (by omega) (by omega)) ?_
    refine rw_p rfl rfl (y_el1 rfl sc5 (hp4 ▸ hx.extN hm0.to hap).nd encB_len hi2 rfl) ?_
    refine rw_p rfl rfl (y_conv rfl is5 it48 w_of8) ?_
    refine rw_p rfl rfl (y_shl rfl rfl (by decide) (w_shl 8 rfl (by decide))) ?_
    refine rw_p rfl rfl (y_or_ rfl rfl w_or) ?_
    refine rw_p rfl rfl (y_move rfl) ?_
    refine rw_p rfl rfl (y_move rfl) ?_
    refine rw_p rfl rfl (y_mul rfl rfl (mulK 4 (by omega))) ?_
    refine rw_p rfl rfl (y_add rfl rfl (addK 3 (by omega))) ?_
    refine rw_p rfl rfl (y_index rfl rfl sl22 hp4 (by omega) (by omega)) ?_
    refine rw_p rfl rfl (y_el1 rfl sc5 (hp4 ▸ hx.extN hm0.to hap).nd encB_len hi3 rfl) ?_
    refine rw_p rfl rfl (y_conv rfl is5 it48 w_of8) ?_
    refine a_cut ?_
    refine rw_p rfl rfl (y_or_ rfl rfl w_or) ?_
    refine rw_p rfl rfl (y_indexP rfl rfl ar68 (by omega) (by omega)) ?_
    refine a_store rfl rfl rfl rfl sz48 rfl hm 0 rfl (by rw [Nat.ble_eq, lenW, List.length_append, Pl.wordsB_len, List.length_replicate]; simp only [List.length_singleton]; omega) fun w hm => ?_
    have hm2 : Mem w0 w (fun k => k = m) [(m1, .row 68 (upds ((Pl.wordsB bs x ++ List.replicate (16 - x) 0).flatMap encW) (0 + x * 1) [.int .u32 ((Pl.be4 c0 c1 c2 c3).toNat : Int)])), (m, (.row TT (stV s rv n)))] := hm
    rw [setW, fill_next (Pl.wordsB_len bs x) (by omega), ← hwb, ← Pl.wordsB_next] at hm2
    refine rw_done ?_
    refine gn_bl ?_
    refine gn_sq ?_
    refine HW_text (.pure 0 (.pure 1 .done)) (by kernel_rfl) ?_
    refine rw_p rfl rfl (y_add rfl rfl (i64w (by omega) (by omega))) ?_
    refine rw_p rfl rfl (y_move rfl) ?_
    refine rw_done ?_
    refine next (x + 1) (by omega) ⟨hm2, by omega⟩ ⟨nx x, rfl, rfl, rfl, trivial⟩
  ·
    simp only [decide_eq_false_iff_not] at hc0
    obtain rfl : x = 16 := by omega
    rw [Nat.sub_self, List.replicate_zero, List.append_nil] at hm
    refine HW_exit rfl ?_
    refine gx_sq (gx_lp ?_)
    refine gx_here ?_
    refine gn_sq ?_
    refine HW_seq rfl ?_
    refine HW_text (.pure 0 (.pure 1 (.pure 2 (.pure 3 (.act 4 (.act 5 .done)))))) (by kernel_rfl) ?_
    refine rw_p rfl rfl (y_move rfl) ?_
    refine rw_p rfl rfl (y_nil rfl) ?_
    refine rw_p rfl rfl (y_fieldAddr rfl fo51_0) ?_
    refine rw_p rfl rfl (y_loadA (s := 8) (vs := [_, _, _, _, _, _, _, _]) rfl ag49 (hm.nt 1 rfl) rfl) ?_
    refine a_alloc rfl rfl z49 hm trivial fun m2 w hg_m2 hm hh => ?_
    refine a_store rfl rfl rfl rfl sz49 rfl hm 0 rfl rfl fun w hm => ?_
    refine rw_done ?_
    refine gn_sq ?_
    refine HW_seq rfl ?_
    refine HW_seq rfl ?_
    refine HW_text (.act 0 (.pure 1 .done)) (by kernel_rfl) ?_
    refine a_call rfl rfl rfl go39 (h_keys _) fun v w hR => ?_
    obtain ⟨rfl, hE⟩ := hR
    refine ⟨trivial, ?_⟩
    replace hm := hm.ext hE
    refine rw_p rfl rfl (y_move rfl) ?_
    refine rw_done ?_
    refine gn_sq ?_
    refine HW_block rfl ?_
    refine HW_loopK (ι := Nat × List UInt32) rfl (ks := [0, 4, 6, 64]) (.cons rfl (.cons rfl (.cons rfl (.cons rfl .nil)))) (fun x => [(65, .int .i64 x.1)]) (fun x w => Mem w0 w (fun k => k = m) [(m2, .row 49 (s8V (Pl.rnds Pl.shK (Pl.schB bs) s x.1))), (m1, .row 68 (x.2.flatMap encW)), (m, (.row TT (stV s rv n)))] ∧ Pl.Ring x.2 (Pl.schB bs) x.1 ∧ x.1 ≤ 64) (fun x => 64 - x.1) (0, Pl.wordsB bs 16) (⟨hm, Pl.Ring.start bs, Nat.zero_le _⟩) ⟨rfl, trivial⟩ (fun x w hM => ?_)
    obtain ⟨hm, hR, hk⟩ := hM
    refine HW_seq rfl ?_
    refine HW_text (.pure 0 .done) (by kernel_rfl) ?_
    refine rw_p rfl rfl (y_lt rfl rfl) ?_
    refine rw_done ?_
    refine gn_sq ?_
    refine HW_seq rfl ?_
    refine HW_cond rfl rfl (fun hc1 => ?_) (fun hc1 => ?_)
    ·
      simp only [decide_eq_true_eq] at hc1
      obtain ⟨t, r⟩ := x
      simp only at hm hR hk hc1 ⊢
      have hKt : Pl.shK[t]? = some (Pl.shK.getD t 0) := by rw [List.getD_eq_getElem?_getD, List.getElem?_eq_getElem (by rw [Pl.shK_len]; omega)]; rfl
      refine HW_skip rfl ?_
      refine gn_sq ?_
      refine HW_seq rfl ?_
      refine HW_block rfl ?_
      refine HW_seq rfl ?_
      refine HW_text (.pure 0 (.pure 1 (.pure 2 (.pure 3 .done)))) (by kernel_rfl) ?_
      refine rw_p rfl rfl (y_move rfl) ?_
      refine rw_p rfl rfl (y_indexV rfl rfl ar69 sc48 (by omega) (getW hKt)) ?_
      refine rw_p rfl rfl (y_assign rfl) ?_
      refine rw_p rfl rfl (y_assign rfl) ?_
      refine rw_done ?_
      refine gn_sq ?_
      refine HW_via (ι := List UInt32) rfl (ks := [0, 4, 6, 7, 8, 64, 65]) (.cons rfl (.cons rfl (.cons rfl (.cons rfl (.cons rfl (.cons rfl (.cons rfl .nil))))))) (fun r9 => []) (fun r9 w => Mem w0 w (fun k => k = m) [(m2, .row 49 (s8V (Pl.rnds Pl.shK (Pl.schB bs) s t))), (m1, .row 68 (r9.flatMap encW)), (m, (.row TT (stV s rv n)))] ∧ Pl.Ring r9 (Pl.schB bs) (t + 1)) ?_ (fun r9 w hM => ?_)
      ·
        refine HW_seq rfl ?_
        refine HW_text (.pure 0 (.pure 1 .done)) (by kernel_rfl) ?_
        refine rw_p rfl rfl (y_move rfl) ?_
        refine rw_p rfl rfl (y_ge rfl rfl) ?_
        refine rw_done ?_
        refine gn_sq ?_
        refine HW_cond rfl rfl (fun hc2 => ?_) (fun hc2 => ?_)
        ·
          simp only [decide_eq_true_eq] at hc2
          refine HW_seq rfl ?_
          refine HW_draw (.pure 0 (.pure 1 (.pure 2 (.pure 3 (.pure 4 (.pure 5 (.pure 6 (.pure 7 (.pure 8 (.pure 9 (.pure 10 (.pure 11 .done)))))))))))) No mix (by kernel_rfl) hm fun w hw hm0 hh => ?_
          have hm := hm0
          refine rw_p rfl rfl (y_move rfl) ?_
          refine rw_p rfl rfl (y_add rfl rfl (addK 1 (by omega))) ?_
          refine rw_p rfl rfl (y_and_ rfl rfl (i_and15 (by omega))) ?_
          refine rw_p rfl rfl (y_indexP rfl rfl ar68 (Int.natCast_nonneg _) (by omega)) ?_
          refine rw_p rfl rfl (y_load rfl sc48 (hm0.nd 1 rfl id) (getW (hR.at (Pl.schB_len bs) (i := t - 15) (by omega) (by omega) (by omega) (by omega)))) ?_
          refine rw_p rfl rfl (y_move rfl) ?_
          refine rw_p rfl rfl (y_add rfl rfl (addK 14 (by omega))) ?_
          refine rw_p rfl rfl (y_and_ rfl rfl (i_and15 (by omega))) ?_
          refine rw_p rfl rfl (y_indexP rfl rfl ar68 (Int.natCast_nonneg _) (by omega)) ?_
          refine rw_p rfl rfl (y_load rfl sc48 (hm0.nd 1 rfl id) (getW (hR.at (Pl.schB_len bs) (i := t - 2) (by omega) (by omega) (by omega) (by omega)))) ?_
          refine rw_p rfl rfl (y_assign rfl) ?_
          refine rw_p rfl rfl (y_assign rfl) ?_
          refine rw_done ?_
          refine gn_sq ?_
          refine HW_seq rfl ?_
          refine HW_text (.pure 0 (.act 1 (.pure 2 (.act 3 (.pure 4 (.pure 5 (.pure 6 (.pure 7 (.pure 8 .done))))))))) (by kernel_rfl) ?_
          refine rw_p rfl rfl (y_move rfl) ?_
          refine a_call rfl rfl rfl go40 (m_rotl _ 7 _ (by decide) (by decide)) fun v w hR => ?_
          obtain ⟨rfl, hE⟩ := hR
          refine ⟨trivial, ?_⟩
          replace hm := hm.ext hE
          refine rw_p rfl rfl (y_move rfl) ?_
          refine a_call rfl rfl rfl go40 (m_rotl _ 18 _ (by decide) (by decide)) fun v w hR => ?_
          obtain ⟨rfl, hE⟩ := hR
          refine ⟨trivial, ?_⟩
          replace hm := hm.ext hE
          refine rw_p rfl rfl (y_xor_ rfl rfl w_xor) ?_
          refine rw_p rfl rfl (y_move rfl) ?_
          refine rw_p rfl rfl (y_shr rfl rfl (by decide) (w_shr 3 rfl (by decide))) ?_
          refine rw_p rfl rfl (y_xor_ rfl rfl w_xor) ?_
          refine rw_p rfl rfl (y_assign rfl) ?_
          refine rw_done ?_
          refine gn_sq ?_
          refine HW_seq rfl ?_
          refine HW_text (.pure 0 (.act 1 (.pure 2 (.act 3 (.pure 4 (.pure 5 (.pure 6 (.pure 7 (.pure 8 .done))))))))) (by kernel_rfl) ?_
          refine rw_p rfl rfl (y_move rfl) ?_
          refine a_call rfl rfl rfl go40 (m_rotl _ 17 _ (by decide) (by decide)) fun v w hR => ?_
          obtain ⟨rfl, hE⟩ := hR
          refine ⟨trivial, ?_⟩
          replace hm := hm.ext hE
          refine rw_p rfl rfl (y_move rfl) ?_
          refine a_call rfl rfl rfl go40 (m_rotl _ 19 _ (by decide) (by decide)) fun v w hR => ?_
          obtain ⟨rfl, hE⟩ := hR
          refine ⟨trivial, ?_⟩
          replace hm := hm.ext hE
          refine rw_p rfl rfl (y_xor_ rfl rfl w_xor) ?_
          refine rw_p rfl rfl (y_move rfl) ?_
          refine rw_p rfl rfl (y_shr rfl rfl (by decide) (w_shr 10 rfl (by decide))) ?_
          refine rw_p rfl rfl (y_xor_ rfl rfl w_xor) ?_
          refine rw_p rfl rfl (y_assign rfl) ?_
          refine rw_done ?_
          refine gn_sq ?_
          refine HW_draw (.pure 0 (.pure 1 (.pure 2 (.pure 3 (.pure 4 (.pure 5 (.pure 6 (.pure 7 (.pure 8 (.pure 9 (.pure 10 (.pure 11 (.pure 12 (.cut (.pure 13 (.pure 14 (.act 15 .done))))))))))))))))) No mix (by kernel_rfl) hm fun w hw hm0 hh => ?_
          have hm := hm0
          refine rw_p rfl rfl (y_move rfl) ?_
          refine rw_p rfl rfl (y_and_ rfl rfl (i_and15 (by omega))) ?_
          refine rw_p rfl rfl (y_indexP rfl rfl ar68 (Int.natCast_nonneg _) (by omega)) ?_
          refine rw_p rfl rfl (y_load rfl sc48 (hm0.nd 1 rfl id) (getW (hR.at (Pl.schB_len bs) (i := t - 16) (by omega) (by omega) (by omega) (by omega)))) ?_
          refine rw_p rfl rfl (y_move rfl) ?_
          refine rw_p rfl rfl (y_move rfl) ?_
          refine rw_p rfl rfl (y_add rfl rfl (addK 9 (by omega))) ?_
          refine rw_p rfl rfl (y_and_ rfl rfl (i_and15 (by omega))) ?_
          refine rw_p rfl rfl (y_indexP rfl rfl ar68 (Int.natCast_nonneg _) (by omega)) ?_
          refine rw_p rfl rfl (y_load rfl sc48 (hm0.nd 1 rfl id) (getW (hR.at (Pl.schB_len bs) (i := t - 7) (by omega) (by omega) (by omega) (by omega)))) ?_
          refine rw_p rfl rfl (y_add rfl rfl w_add) ?_
          refine rw_p rfl rfl (y_move rfl) ?_
          refine rw_p rfl rfl (y_add rfl rfl w_add) ?_
          refine a_cut ?_
          refine rw_p rfl rfl (y_add rfl rfl w_add) ?_
          refine rw_p rfl rfl (y_indexP rfl rfl ar68 (Int.natCast_nonneg _) (by omega)) ?_
          refine a_store rfl rfl rfl rfl sz48 rfl hm 1 rfl (by rw [Nat.ble_eq, lenW, hR.len]; simp only [List.length_singleton]; omega) fun w hm => ?_
          have hm2 : Mem w0 w (fun k => k = m) [(m2, .row 49 (s8V (Pl.rnds Pl.shK (Pl.schB bs) s t))), (m1, .row 68 (upds (r.flatMap encW) (0 + (t % 16) * 1) [.int .u32 (((Pl.schB bs).getD (t - 16) 0 + (Pl.sg0 ((Pl.schB bs).getD (t - 15) 0) + (Pl.schB bs).getD (t - 7) 0 + Pl.sg1 ((Pl.schB bs).getD (t - 2) 0))).toNat : Int)])), (m, (.row TT (stV s rv n)))] := hm
          rw [setW] at hm2
          refine rw_done ?_
          first | exact gn_vi _ ⟨hm2, hR.next1 (by omega) (by omega) (Pl.schB_ring bs (by omega) (by omega))⟩ ⟨rfl, rfl, rfl, rfl, rfl, rfl, rfl, trivial⟩ | exact gn_vi r ⟨hm, hR.next0 (by omega)⟩ ⟨rfl, rfl, rfl, rfl, rfl, rfl, rfl, trivial⟩
        ·
          simp only [decide_eq_false_iff_not] at hc2
          refine HW_skip rfl ?_
          first | exact gn_vi _ ⟨hm2, hR.next1 (by omega) (by omega) (Pl.schB_ring bs (by omega) (by omega))⟩ ⟨rfl, rfl, rfl, rfl, rfl, rfl, rfl, trivial⟩ | exact gn_vi r ⟨hm, hR.next0 (by omega)⟩ ⟨rfl, rfl, rfl, rfl, rfl, rfl, rfl, trivial⟩
      ·
        obtain ⟨hm, hR⟩ := hM
        refine HW_seq rfl ?_
        refine HW_draw (.pure 0 (.pure 1 (.pure 2 (.pure 3 (.pure 4 (.pure 5 .done)))))) No mix (by kernel_rfl) hm fun w hw hm0 hh => ?_
        have hm := hm0
        refine rw_p rfl rfl (y_indexP rfl rfl ar49 (by omega) (by omega)) ?_
        refine rw_p rfl rfl (y_load rfl sc48 (hm0.nd 0 rfl id) rfl) ?_
        refine rw_p rfl rfl (y_indexP rfl rfl ar49 (by omega) (by omega)) ?_
        refine rw_p rfl rfl (y_load rfl sc48 (hm0.nd 0 rfl id) rfl) ?_
        refine rw_p rfl rfl (y_assign rfl) ?_
        refine rw_p rfl rfl (y_assign rfl) ?_
        refine rw_done ?_
        refine gn_sq ?_
        refine HW_seq rfl ?_
        refine HW_text (.pure 0 (.pure 1 (.pure 2 (.pure 3 (.pure 4 (.pure 5 (.pure 6 (.pure 7 (.pure 8 (.pure 9 (.pure 10 .done))))))))))) (by kernel_rfl) ?_
        refine rw_p rfl rfl (y_indexP rfl rfl ar49 (by omega) (by omega)) ?_
        refine rw_p rfl rfl (y_load rfl sc48 (hm.nt 0 rfl) rfl) ?_
        refine rw_p rfl rfl (y_move rfl) ?_
        refine rw_p rfl rfl (y_indexP rfl rfl ar49 (by omega) (by omega)) ?_
        refine rw_p rfl rfl (y_load rfl sc48 (hm.nt 0 rfl) rfl) ?_
        refine rw_p rfl rfl (y_indexP rfl rfl ar49 (by omega) (by omega)) ?_
        refine rw_p rfl rfl (y_load rfl sc48 (hm.nt 0 rfl) rfl) ?_
        refine rw_p rfl rfl (y_xor_ rfl rfl w_xor) ?_
        refine rw_p rfl rfl (y_and_ rfl rfl w_and) ?_
        refine rw_p rfl rfl (y_xor_ rfl rfl w_xor) ?_
        refine rw_p rfl rfl (y_assign rfl) ?_
        refine rw_done ?_
        refine gn_sq ?_
        refine HW_seq rfl ?_
        refine HW_text (.pure 0 (.pure 1 (.pure 2 (.pure 3 (.pure 4 (.pure 5 (.pure 6 (.pure 7 (.pure 8 (.pure 9 (.pure 10 (.pure 11 (.pure 12 .done))))))))))))) (by kernel_rfl) ?_
        refine rw_p rfl rfl (y_move rfl) ?_
        refine rw_p rfl rfl (y_indexP rfl rfl ar49 (by omega) (by omega)) ?_
        refine rw_p rfl rfl (y_load rfl sc48 (hm.nt 0 rfl) rfl) ?_
        refine rw_p rfl rfl (y_and_ rfl rfl w_and) ?_
        refine rw_p rfl rfl (y_indexP rfl rfl ar49 (by omega) (by omega)) ?_
        refine rw_p rfl rfl (y_load rfl sc48 (hm.nt 0 rfl) rfl) ?_
        refine rw_p rfl rfl (y_move rfl) ?_
        refine rw_p rfl rfl (y_indexP rfl rfl ar49 (by omega) (by omega)) ?_
        refine rw_p rfl rfl (y_load rfl sc48 (hm.nt 0 rfl) rfl) ?_
        refine rw_p rfl rfl (y_or_ rfl rfl w_or) ?_
        refine rw_p rfl rfl (y_and_ rfl rfl w_and) ?_
        refine rw_p rfl rfl (y_or_ rfl rfl w_or) ?_
        refine rw_p rfl rfl (y_assign rfl) ?_
        refine rw_done ?_
        refine gn_sq ?_
        refine HW_via (ι := Unit) rfl (ks := [0, 4, 6, 7, 8, 13, 14, 15, 16, 64, 65]) (.cons rfl (.cons rfl (.cons rfl (.cons rfl (.cons rfl (.cons rfl (.cons rfl (.cons rfl (.cons rfl (.cons rfl (.cons rfl .nil))))))))))) (fun u9 => [(17, .int .u32 ((Pl.shT1 (Pl.rnds Pl.shK (Pl.schB bs) s t) (Pl.shK.getD t 0) ((Pl.schB bs).getD t 0)).toNat : Int))]) (fun u9 w => Mem w0 w (fun k => k = m) [(m2, .row 49 (s8V (Pl.rnds Pl.shK (Pl.schB bs) s t))), (m1, .row 68 (r9.flatMap encW)), (m, (.row TT (stV s rv n)))]) ?_ (fun u9 w hM => ?_)
        ·
          refine HW_draw (.pure 0 (.pure 1 (.pure 2 (.pure 4 (.pure 7 (.pure 11 (.pure 13 (.pure 15 (.pure 16 (.pure 17 (.pure 18 (.act 3 (.act 5 (.pure 6 (.act 8 (.pure 9 (.pure 10 (.pure 12 (.pure 14 (.pure 19 (.pure 20 .done))))))))))))))))))))) No mix (by kernel_rfl) hm fun w hw hm0 hh => ?_
          have hm := hm0
          refine rw_p rfl rfl (y_indexP rfl rfl ar49 (by omega) (by omega)) ?_
          refine rw_p rfl rfl (y_load rfl sc48 (hm0.nd 0 rfl id) rfl) ?_
          refine rw_p rfl rfl (y_move rfl) ?_
          refine rw_p rfl rfl (y_move rfl) ?_
          refine rw_p rfl rfl (y_move rfl) ?_
          refine rw_p rfl rfl (y_move rfl) ?_
          refine rw_p rfl rfl (y_move rfl) ?_
          refine rw_p rfl rfl (y_move rfl) ?_
          refine rw_p rfl rfl (y_and_ rfl rfl (i_and15 (by omega))) ?_
          refine rw_p rfl rfl (y_indexP rfl rfl ar68 (Int.natCast_nonneg _) (by omega)) ?_
          refine rw_p rfl rfl (y_load rfl sc48 (hm0.nd 1 rfl id) (getW (hR.at (Pl.schB_len bs) (i := t) (by omega) (by omega) (by omega) rfl))) ?_
          refine a_call rfl rfl rfl go40 (m_rotl _ 6 _ (by decide) (by decide)) fun v w hR => ?_
          obtain ⟨rfl, hE⟩ := hR
          refine ⟨hh.ext hE, ?_⟩
          replace hm := hm.ext hE
          replace hh := hh.ext hE
          refine a_call rfl rfl rfl go40 (m_rotl _ 11 _ (by decide) (by decide)) fun v w hR => ?_
          obtain ⟨rfl, hE⟩ := hR
          refine ⟨hh.ext hE, ?_⟩
          replace hm := hm.ext hE
          replace hh := hh.ext hE
          refine rw_p rfl rfl (y_xor_ rfl rfl w_xor) ?_
          refine a_call rfl rfl rfl go40 (m_rotl _ 25 _ (by decide) (by decide)) fun v w hR => ?_
          obtain ⟨rfl, hE⟩ := hR
          refine ⟨hh.ext hE, ?_⟩
          replace hm := hm.ext hE
          replace hh := hh.ext hE
          refine rw_p rfl rfl (y_xor_ rfl rfl w_xor) ?_
          refine rw_p rfl rfl (y_add rfl rfl w_add) ?_
          refine rw_p rfl rfl (y_add rfl rfl w_add) ?_
          refine rw_p rfl rfl (y_add rfl rfl w_add) ?_
          refine rw_p rfl rfl (y_add rfl rfl w_add) ?_
          refine rw_p rfl rfl (y_assign rfl) ?_
          refine rw_done ?_
          exact gn_vi () hm ⟨by rw [← Pl.t1_eq]; rfl, rfl, rfl, rfl, rfl, rfl, rfl, rfl, rfl, rfl, rfl, rfl, trivial⟩
        ·
          have hm := hM
          refine HW_seq rfl ?_
          refine HW_text (.pure 0 (.act 1 (.pure 2 (.act 3 (.pure 4 (.pure 5 (.act 6 (.pure 7 (.pure 8 (.pure 9 (.pure 10 .done))))))))))) (by kernel_rfl) ?_
          refine rw_p rfl rfl (y_move rfl) ?_
          refine a_call rfl rfl rfl go40 (m_rotl _ 2 _ (by decide) (by decide)) fun v w hR => ?_
          obtain ⟨rfl, hE⟩ := hR
          refine ⟨trivial, ?_⟩
          replace hm := hm.ext hE
          refine rw_p rfl rfl (y_move rfl) ?_
          refine a_call rfl rfl rfl go40 (m_rotl _ 13 _ (by decide) (by decide)) fun v w hR => ?_
          obtain ⟨rfl, hE⟩ := hR
          refine ⟨trivial, ?_⟩
          replace hm := hm.ext hE
          refine rw_p rfl rfl (y_xor_ rfl rfl w_xor) ?_
          refine rw_p rfl rfl (y_move rfl) ?_
          refine a_call rfl rfl rfl go40 (m_rotl _ 22 _ (by decide) (by decide)) fun v w hR => ?_
          obtain ⟨rfl, hE⟩ := hR
          refine ⟨trivial, ?_⟩
          replace hm := hm.ext hE
          refine rw_p rfl rfl (y_xor_ rfl rfl w_xor) ?_
          refine rw_p rfl rfl (y_move rfl) ?_
          refine rw_p rfl rfl (y_add rfl rfl w_add) ?_
          refine rw_p rfl rfl (y_assign rfl) ?_
          refine rw_done ?_
          refine gn_sq ?_
          refine HW_seq rfl ?_
          refine HW_draw (.pure 0 (.pure 1 (.cut (.act 2 .done)))) No mix (by kernel_rfl) hm fun w hw hm0 hh => ?_
          have hm := hm0
          refine rw_p rfl rfl (y_sliceP (ln := 1) (hn := 8) rfl ar49 ⟨_, rfl⟩ rfl (by omega) (by omega) (by omega)) ?_
          refine rw_p rfl rfl (y_sliceP (ln := 0) (hn := 7) rfl ar49 rfl ⟨_, rfl⟩ (by omega) (by omega) (by omega)) ?_
          refine a_cut ?_
          refine a_copyR (src := (s8V (Pl.rnds Pl.shK (Pl.schB bs) s t)).take 7) rfl rfl rfl rfl rfl sl44 hm 0 rfl (Nat.le_refl 8) (Rd.row (hm.get (k := 0) rfl) takeP) rfl rfl fun w hm => ?_
          refine rw_done ?_
          refine gn_sq ?_
          refine HW_seq rfl ?_
          refine HW_text (.pure 0 (.pure 1 (.pure 2 (.pure 3 (.pure 4 (.act 5 .done)))))) (by kernel_rfl) ?_
          refine rw_p rfl rfl (y_indexP rfl rfl ar49 (by omega) (by omega)) ?_
          refine rw_p rfl rfl (y_load rfl sc48 (hm.nt 0 rfl) rfl) ?_
          refine rw_p rfl rfl (y_move rfl) ?_
          refine rw_p rfl rfl (y_add rfl rfl w_add) ?_
          refine rw_p rfl rfl (y_indexP rfl rfl ar49 (by omega) (by omega)) ?_
          refine a_store rfl rfl rfl rfl sz48 rfl hm 0 rfl rfl fun w hm => ?_
          refine rw_done ?_
          refine gn_sq ?_
          refine HW_text (.pure 0 (.pure 1 (.pure 2 (.pure 3 (.act 4 .done))))) (by kernel_rfl) ?_
          refine rw_p rfl rfl (y_move rfl) ?_
          refine rw_p rfl rfl (y_move rfl) ?_
          refine rw_p rfl rfl (y_add rfl rfl w_add) ?_
          refine rw_p rfl rfl (y_indexP rfl rfl ar49 (by omega) (by omega)) ?_
          refine a_store rfl rfl rfl rfl sz48 rfl hm 0 rfl rfl fun w hm => ?_
          have hm3 : Mem w0 w (fun k => k = m) [(m2, .row 49 (s8V (Pl.rnds Pl.shK (Pl.schB bs) s (t + 1)))), (m1, .row 68 (r9.flatMap encW)), (m, (.row TT (stV s rv n)))] := by have e := Pl.t2_eq (Pl.rnds Pl.shK (Pl.schB bs) s t); unfold Pl.rnds Pl.rnd; rw [← e]; exact hm
          refine rw_done ?_
          refine gn_bl ?_
          refine gn_sq ?_
          refine HW_text (.pure 0 (.pure 1 .done)) (by kernel_rfl) ?_
          refine rw_p rfl rfl (y_add rfl rfl (i64w (by omega) (by omega))) ?_
          refine rw_p rfl rfl (y_move rfl) ?_
          refine rw_done ?_
          refine next (t + 1, r9) (by simp only; omega) ⟨hm3, hR, by simp only; omega⟩ ⟨nx t, rfl, rfl, rfl, rfl, trivial⟩
    ·
      simp only [decide_eq_false_iff_not] at hc1
      obtain ⟨t, r⟩ := x
      simp only at hm hR hk hc1 ⊢
      obtain rfl : t = 64 := by omega
      refine HW_exit rfl ?_
      refine gx_sq (gx_lp ?_)
      refine gx_here ?_
      refine gn_sq ?_
      refine HW_seq rfl ?_
      refine HW_text (.pure 0 (.pure 1 .done)) (by kernel_rfl) ?_
      refine rw_p rfl rfl (y_loadA (s := 8) (vs := [_, _, _, _, _, _, _, _]) rfl ag49 (hm.nt 0 rfl) rfl) ?_
      refine rw_p rfl rfl (y_move rfl) ?_
      refine rw_done ?_
      refine gn_sq ?_
      refine HW_block rfl ?_
      refine HW_loopK (ι := Nat) rfl (ks := [0, 181]) (.cons rfl (.cons rfl .nil)) (fun y => [(182, .int .i64 y)]) (fun y w => Mem w0 w (fun k => k = m) [(m2, .row 49 (s8V (Pl.rnds Pl.shK (Pl.schB bs) s 64))), (m1, .row 68 (r.flatMap encW)), (m, .row TT (stL (addTo s (Pl.rnds Pl.shK (Pl.schB bs) s 64) y) rv n))] ∧ y ≤ 8) (fun y => 8 - y) 0 (⟨hm, Nat.zero_le _⟩) ⟨rfl, trivial⟩ (fun y w hM => ?_)
      obtain ⟨hm, hk⟩ := hM
      refine HW_seq rfl ?_
      refine HW_text (.pure 0 .done) (by kernel_rfl) ?_
      refine rw_p rfl rfl (y_lt rfl rfl) ?_
      refine rw_done ?_
      refine gn_sq ?_
      refine HW_seq rfl ?_
      refine HW_cond rfl rfl (fun hc3 => ?_) (fun hc3 => ?_)
      ·
        simp only [decide_eq_true_eq] at hc3
        refine HW_skip rfl ?_
        refine gn_sq ?_
        refine HW_seq rfl ?_
        refine HW_block rfl ?_
        refine HW_seq rfl ?_
        refine HW_text (.pure 0 (.pure 1 (.pure 2 (.pure 3 .done)))) (by kernel_rfl) ?_
        refine rw_p rfl rfl (y_move rfl) ?_
        refine rw_p rfl rfl (y_indexV rfl rfl ar49 sc48 (by omega) (S8get (by omega))) ?_
        refine rw_p rfl rfl (y_assign rfl) ?_
        refine rw_p rfl rfl (y_assign rfl) ?_
        refine rw_done ?_
        refine gn_sq ?_
        refine HW_draw (.pure 0 (.pure 1 (.pure 2 (.pure 3 (.pure 4 (.pure 5 (.pure 6 (.pure 7 (.pure 8 (.pure 9 (.cut (.pure 10 (.act 11 .done))))))))))))) No mix (by kernel_rfl) hm fun w hw hm0 hh => ?_
        have hm := hm0
        refine rw_p rfl rfl (y_move rfl) ?_
        refine rw_p rfl rfl (y_move rfl) ?_
        refine rw_p rfl rfl (y_nil rfl) ?_
        refine rw_p rfl rfl (y_fieldAddr rfl fo51_0) ?_
        refine rw_p rfl rfl (y_indexP rfl rfl ar49 (by omega) (by omega)) ?_
        refine rw_p rfl rfl (y_load rfl sc48 (hm0.nd 2 rfl id) (stL_get (addTo_get _ _ (by omega)))) ?_
        refine rw_p rfl rfl (y_move rfl) ?_
        refine rw_p rfl rfl (y_add rfl rfl w_add) ?_
        refine rw_p rfl rfl (y_nil rfl) ?_
        refine rw_p rfl rfl (y_fieldAddr rfl fo51_0) ?_
        refine a_cut ?_
        refine rw_p rfl rfl (y_indexP rfl rfl ar49 (by omega) (by omega)) ?_
        refine a_store rfl rfl rfl rfl sz48 rfl hm 2 rfl (by rw [Nat.ble_eq]; unfold stL; rw [List.length_append, lenW, addTo_len _ _ (by omega)]; simp only [List.length_cons, List.length_nil]; omega) fun w hm => ?_
        have hm2 : Mem w0 w (fun k => k = m) [(m2, .row 49 (s8V (Pl.rnds Pl.shK (Pl.schB bs) s 64))), (m1, .row 68 (r.flatMap encW)), (m, .row TT (upds (stL (addTo s (Pl.rnds Pl.shK (Pl.schB bs) s 64) y) rv n) (0 + y * 1) [.int .u32 ((s.l.getD y 0 + (Pl.rnds Pl.shK (Pl.schB bs) s 64).l.getD y 0).toNat : Int)]))] := hm
        rw [stL_set (by rw [addTo_len _ _ (by omega)]; omega), addTo_set _ _ (by omega)] at hm2
        refine rw_done ?_
        refine gn_bl ?_
        refine gn_sq ?_
        refine HW_text (.pure 0 (.pure 1 .done)) (by kernel_rfl) ?_
        refine rw_p rfl rfl (y_add rfl rfl (i64w (by omega) (by omega))) ?_
        refine rw_p rfl rfl (y_move rfl) ?_
        refine rw_done ?_
        refine next (y + 1) (by omega) ⟨hm2, by omega⟩ ⟨nx y, rfl, rfl, trivial⟩
      ·
        simp only [decide_eq_false_iff_not] at hc3
        obtain rfl : y = 8 := by omega
        refine HW_exit rfl ?_
        refine gx_sq (gx_lp ?_)
        refine gx_here ?_
        refine toN (fin hnorm rfl .nil .nil ?_)
        exact ⟨rfl, (hm.pick [2] rfl)⟩

end Go.Proofs.Ytdiklnekplhhgaa
