/- Contracts of functions of the program: what each returns. Conditions: the hypotheses of each theorem. -/
import Derived.Test.YtkllojjpaelmhaaSha
set_option linter.unusedVariables false
set_option linter.unusedSimpArgs false
namespace Go.Proofs.Ytkllojjpaelmhaa
open Go Go.Cx

theorem ag142 : aggS Try.prog 142 = some 4 := by kernel_rfl
theorem ar142 : arrO Try.prog 142 = some (4, 35, 1) := by kernel_rfl
theorem sc35 : scal Try.prog 35 = true := by kernel_rfl
theorem sz142 : szO Try.prog 142 = some 4 := by kernel_rfl
theorem z142 : zer Try.prog 142 = some [.int .u64 0, .int .u64 0, .int .u64 0, .int .u64 0] := by kernel_rfl
theorem sz35 : szO Try.prog 35 = some 1 := by kernel_rfl
theorem go79 : isGo Try.prog 79 = true := by kernel_rfl
theorem go80 : isGo Try.prog 80 = true := by kernel_rfl
theorem go81 : isGo Try.prog 81 = true := by kernel_rfl
theorem ft142 : fldT Try.prog 142 = some [(0, 1), (1, 1), (2, 1), (3, 1)] := by kernel_rfl
theorem go78 : isGo Try.prog 78 = true := by kernel_rfl
theorem go77 : isGo Try.prog 77 = true := by kernel_rfl
theorem sl134 : slcO Try.prog 134 = some (35, 1, 8) := by kernel_rfl
theorem z35 : zer Try.prog 35 = some [.int .u64 0] := by kernel_rfl
theorem go73 : isGo Try.prog 73 = true := by kernel_rfl
theorem go74 : isGo Try.prog 74 = true := by kernel_rfl
theorem z115 : zer Try.prog 115 = some [.int .u32 0] := by kernel_rfl
theorem ag107 : aggS Try.prog 107 = some 2 := by kernel_rfl
theorem ft107 : fldT Try.prog 107 = some [(0, 1), (1, 1)] := by kernel_rfl
theorem go68 : isGo Try.prog 68 = true := by kernel_rfl
theorem sz107 : szO Try.prog 107 = some 2 := by kernel_rfl
theorem z107 : zer Try.prog 107 = some [.slice none 0 0, .slice none 0 0] := by kernel_rfl
theorem go72 : isGo Try.prog 72 = true := by kernel_rfl
theorem fo107_0 : fldO Try.prog 107 0 = some 0 := by kernel_rfl
theorem fo107_1 : fldO Try.prog 107 1 = some 1 := by kernel_rfl
theorem go65 : isGo Try.prog 65 = true := by kernel_rfl
theorem go66 : isGo Try.prog 66 = true := by kernel_rfl
theorem go67 : isGo Try.prog 67 = true := by kernel_rfl
theorem sc105 : scal Try.prog 105 = true := by kernel_rfl
theorem go50 : isGo Try.prog 50 = true := by kernel_rfl
theorem go51 : isGo Try.prog 51 = true := by kernel_rfl

set_option maxHeartbeats 800000 in
theorem r2_scale (a : List Nat) (m : Nat) (w0 : World) (hl : a.length = 4) (ha : ∀ y ∈ a, y < 4294967296) (hmb : m < 1048576) : C Try.prog 80 [.agg ⟨a.flatMap encU⟩, .int .u64 (m : Int)] w0 fun v w' => v = .agg ⟨(Pl.scaleW a m).flatMap encU⟩ ∧ Ext No w0 w' := by
  have hxl : (a.map (· * m)).length = 4 := by rw [List.length_map, hl]
  have hbd : ∀ y ∈ (a.map (· * m)), y ≤ 4503599627370496 := fun y hy => by obtain ⟨z, hz, rfl⟩ := List.mem_map.1 hy; have := ha z hz; exact Nat.le_trans (Nat.mul_le_mul (Nat.le_of_lt this) (Nat.le_of_lt hmb)) (by decide)
  refine C_of Try.func80 rfl rfl rfl fun κ hret hnorm => ?_
  have hm := Mem.start w0
  refine HW_seq rfl ?_
  refine HW_text (.act 0 (.act 1 .done)) (by kernel_rfl) ?_
  refine a_box rfl rfl rfl rfl hm trivial fun m1 w hg_m1 hm hh => ?_
  refine a_alloc rfl rfl z142 hm trivial fun m2 w hg_m2 hm hh => ?_
  refine rw_done ?_
  refine gn_sq ?_
  refine HW_seq rfl ?_
  refine HW_text (.pure 0 .done) (by kernel_rfl) ?_
  refine rw_p rfl rfl (y_assign rfl) ?_
  refine rw_done ?_
  refine gn_sq ?_
  refine HW_seq rfl ?_
  refine HW_text (.act 0 .done) (by kernel_rfl) ?_
  refine a_alloc rfl rfl z142 hm trivial fun m3 w hg_m3 hm hh => ?_
  refine rw_done ?_
  refine gn_sq ?_
  refine HW_seq rfl ?_
  refine HW_seq rfl ?_
  refine HW_text (.pure 0 .done) (by kernel_rfl) ?_
  refine rw_p rfl rfl (y_assign rfl) ?_
  refine rw_done ?_
  refine gn_sq ?_
  refine HW_block rfl ?_
  refine HW_loopK (ι := Nat) rfl (ks := [1, 2, 4, 6]) (.cons rfl (.cons rfl (.cons rfl (.cons rfl .nil)))) (fun x => [(7, .int .i64 x), (5, .int .u64 (Pl.carC ((a.map (· * m)).take x) 0))]) (fun x w => Mem w0 w No [(m3, .row 142 ((Pl.carL ((a.map (· * m)).take x) 0 ++ List.replicate (4 - x) 0).flatMap encU)), (m2, .row 142 [.int .u64 0, .int .u64 0, .int .u64 0, .int .u64 0]), (m1, .row 142 (a.flatMap encU))] ∧ x ≤ 4) (fun x => 4 - x) 0 (⟨hm, Nat.zero_le _⟩) ⟨rfl, rfl, trivial⟩ (fun x w hM => ?_)
  obtain ⟨hm, hk⟩ := hM
  refine HW_seq rfl ?_
  refine HW_seq rfl ?_
  refine HW_text (.pure 0 (.pure 1 .done)) (by kernel_rfl) ?_
  refine rw_p rfl rfl (y_move rfl) ?_
  refine rw_p rfl rfl (y_lt rfl rfl) ?_
  refine rw_done ?_
  refine gn_sq ?_
  refine HW_cond rfl rfl (fun hc0 => ?_) (fun hc0 => ?_)
  ·
    simp only [decide_eq_true_eq] at hc0
    obtain ⟨c, hi⟩ : ∃ y_, a[x]? = some y_ := ⟨_, List.getElem?_eq_getElem (by omega)⟩
    have hca := ha c (List.mem_of_getElem? hi)
    have hcm : c * m ≤ 4503599627370496 := hbd _ (List.mem_map.2 ⟨c, List.mem_of_getElem? hi, rfl⟩)
    have hnx : (a.map (· * m)).take (x + 1) = (a.map (· * m)).take x ++ [(c * m)] := Pl.take_snoc (by rw [List.getElem?_map, hi]; rfl)
    have hcar : Pl.carC ((a.map (· * m)).take x) 0 ≤ 4503599627370496 := Pl.carC_le _ _ (fun y hy => hbd y (List.mem_of_mem_take hy)) (by decide)
    refine HW_skip rfl ?_
    refine gn_sq ?_
    refine HW_seq rfl ?_
    refine HW_block rfl ?_
    refine HW_seq rfl ?_
    refine HW_text (.pure 0 (.pure 1 (.pure 2 (.pure 3 (.pure 4 (.pure 5 (.pure 6 (.pure 7 .done)))))))) (by kernel_rfl) ?_
    refine rw_p rfl rfl (y_move rfl) ?_
    refine rw_p rfl rfl (y_indexP rfl rfl ar142 (Int.natCast_nonneg _) (by omega)) ?_
    refine rw_p rfl rfl (y_load rfl sc35 (hm.nt 2 rfl) (getU hi)) ?_
    refine rw_p rfl rfl (y_move rfl) ?_
    refine rw_p rfl rfl (y_mul rfl rfl (u_mul (by omega))) ?_
    refine rw_p rfl rfl (y_move rfl) ?_
    refine rw_p rfl rfl (y_add rfl rfl (u_add (by omega))) ?_
    refine rw_p rfl rfl (y_assign rfl) ?_
    refine rw_done ?_
    refine gn_sq ?_
    refine HW_seq rfl ?_
    refine HW_text (.pure 0 (.pure 1 (.pure 2 (.pure 3 (.act 4 .done))))) (by kernel_rfl) ?_
    refine rw_p rfl rfl (y_move rfl) ?_
    refine rw_p rfl rfl (y_move rfl) ?_
    refine rw_p rfl rfl (y_and_ rfl rfl (u_and (k := 32) (by omega) 4294967295 rfl (by decide))) ?_
    refine rw_p rfl rfl (y_indexP rfl rfl ar142 (Int.natCast_nonneg _) (by omega)) ?_
    refine a_store rfl rfl rfl rfl sz35 rfl hm 0 rfl (by rw [Nat.ble_eq, lenU, List.length_append, Pl.carL_len, List.length_take, hxl, List.length_replicate]; simp only [List.length_singleton]; omega) fun w hm => ?_
    have hm2 : Mem w0 w No [(m3, .row 142 (upds ((Pl.carL ((a.map (· * m)).take x) 0 ++ List.replicate (4 - x) 0).flatMap encU) (0 + x * 1) [.int .u64 ((((c * m) + Pl.carC ((a.map (· * m)).take x) 0) % Pl.wB : Nat) : Int)])), (m2, .row 142 [.int .u64 0, .int .u64 0, .int .u64 0, .int .u64 0]), (m1, .row 142 (a.flatMap encU))] := hm
    rw [setU, fill_next (by rw [Pl.carL_len, List.length_take, hxl]; omega) (by omega), ← Pl.carL_app, ← hnx] at hm2
    refine rw_done ?_
    refine gn_sq ?_
    refine HW_text (.pure 0 (.pure 1 (.pure 2 .done))) (by kernel_rfl) ?_
    refine rw_p rfl rfl (y_move rfl) ?_
    refine rw_p rfl rfl (y_shr rfl rfl (by decide) (u_shr (k := 32) rfl (by decide))) ?_
    refine rw_p rfl rfl (y_assign rfl) ?_
    refine rw_done ?_
    refine gn_bl ?_
    refine gn_sq ?_
    refine HW_text (.pure 0 (.pure 1 (.pure 2 .done))) (by kernel_rfl) ?_
    refine rw_p rfl rfl (y_move rfl) ?_
    refine rw_p rfl rfl (y_add rfl rfl (i64w (by omega) (by omega))) ?_
    refine rw_p rfl rfl (y_assign rfl) ?_
    refine rw_done ?_
    refine next (x + 1) (by omega) ⟨hm2, by omega⟩ ⟨nx x, by rw [hnx, Pl.carC_app]; rfl, rfl, rfl, rfl, rfl, trivial⟩
  ·
    simp only [decide_eq_false_iff_not] at hc0
    obtain rfl : x = 4 := by omega
    rw [List.take_of_length_le (by rw [hxl]; exact Nat.le_refl _), Nat.sub_self, List.replicate_zero, List.append_nil] at hm
    refine HW_exit rfl ?_
    refine gx_sq (gx_lp ?_)
    refine gx_here ?_
    refine gn_sq ?_
    refine HW_seq rfl ?_
    refine HW_text (.pure 0 (.act 1 .done)) (by kernel_rfl) ?_
    refine rw_p rfl rfl (y_loadA (s := 4) (vs := ((Pl.carL (a.map (· * m)) 0).flatMap encU)) rfl ag142 (hm.nt 0 rfl) (nthsU (show (Pl.carL (a.map (· * m)) 0).length = 4 by rw [Pl.carL_len, hxl]))) ?_
    refine a_store rfl rfl rfl rfl (sz142.trans (congrArg some (lenU4 (show (Pl.carL (a.map (· * m)) 0).length = 4 by rw [Pl.carL_len, hxl])).symm)) (oneU _) hm 1 rfl (by rw [Nat.ble_eq, lenU4 (show (Pl.carL (a.map (· * m)) 0).length = 4 by rw [Pl.carL_len, hxl])]; exact Nat.le_refl 4) fun w hm => ?_
    rw [upds_z4 (show (Pl.carL (a.map (· * m)) 0).length = 4 by rw [Pl.carL_len, hxl])] at hm
    refine rw_done ?_
    refine gn_sq ?_
    refine HW_ret rfl ?_
    refine toR (fin hret rfl (.cell rfl (run_loadVar_a (vs := ((Pl.carL (a.map (· * m)) 0).flatMap encU)) ag142 (hm.get (k := 1) rfl) (nthsU (show (Pl.carL (a.map (· * m)) 0).length = 4 by rw [Pl.carL_len, hxl]))) .nil) .one ?_)
    exact ⟨rfl, hm.to⟩

set_option maxHeartbeats 800000 in
theorem r2_shift (a : List Nat) (w0 : World) (hl : a.length = 4) (ha : ∀ y ∈ a, y < 4294967296) : C Try.prog 81 [.agg ⟨a.flatMap encU⟩] w0 fun v w' => v = .agg ⟨(Pl.scaleW a 65536).flatMap encU⟩ ∧ Ext No w0 w' := by
  have hxl : (a.map (· * 65536)).length = 4 := by rw [List.length_map, hl]
  have hbd : ∀ y ∈ (a.map (· * 65536)), y ≤ 4503599627370496 := fun y hy => by obtain ⟨z, hz, rfl⟩ := List.mem_map.1 hy; have := ha z hz; show z * 65536 ≤ _; omega
  refine C_of Try.func81 rfl rfl rfl fun κ hret hnorm => ?_
  have hm := Mem.start w0
  refine HW_seq rfl ?_
  refine HW_text (.act 0 (.act 1 .done)) (by kernel_rfl) ?_
  refine a_box rfl rfl rfl rfl hm trivial fun m1 w hg_m1 hm hh => ?_
  refine a_alloc rfl rfl z142 hm trivial fun m2 w hg_m2 hm hh => ?_
  refine rw_done ?_
  refine gn_sq ?_
  refine HW_seq rfl ?_
  refine HW_text (.pure 0 .done) (by kernel_rfl) ?_
  refine rw_p rfl rfl (y_assign rfl) ?_
  refine rw_done ?_
  refine gn_sq ?_
  refine HW_seq rfl ?_
  refine HW_text (.act 0 .done) (by kernel_rfl) ?_
  refine a_alloc rfl rfl z142 hm trivial fun m3 w hg_m3 hm hh => ?_
  refine rw_done ?_
  refine gn_sq ?_
  refine HW_seq rfl ?_
  refine HW_seq rfl ?_
  refine HW_text (.pure 0 .done) (by kernel_rfl) ?_
  refine rw_p rfl rfl (y_assign rfl) ?_
  refine rw_done ?_
  refine gn_sq ?_
  refine HW_block rfl ?_
  refine HW_loopK (ι := Nat) rfl (ks := [1, 2, 4]) (.cons rfl (.cons rfl (.cons rfl .nil))) (fun x => [(5, .int .i64 x), (3, .int .u64 (Pl.carC ((a.map (· * 65536)).take x) 0))]) (fun x w => Mem w0 w No [(m3, .row 142 ((Pl.carL ((a.map (· * 65536)).take x) 0 ++ List.replicate (4 - x) 0).flatMap encU)), (m2, .row 142 [.int .u64 0, .int .u64 0, .int .u64 0, .int .u64 0]), (m1, .row 142 (a.flatMap encU))] ∧ x ≤ 4) (fun x => 4 - x) 0 (⟨hm, Nat.zero_le _⟩) ⟨rfl, rfl, trivial⟩ (fun x w hM => ?_)
  obtain ⟨hm, hk⟩ := hM
  refine HW_seq rfl ?_
  refine HW_seq rfl ?_
  refine HW_text (.pure 0 (.pure 1 .done)) (by kernel_rfl) ?_
  refine rw_p rfl rfl (y_move rfl) ?_
  refine rw_p rfl rfl (y_lt rfl rfl) ?_
  refine rw_done ?_
  refine gn_sq ?_
  refine HW_cond rfl rfl (fun hc0 => ?_) (fun hc0 => ?_)
  ·
    simp only [decide_eq_true_eq] at hc0
    obtain ⟨c, hi⟩ : ∃ y_, a[x]? = some y_ := ⟨_, List.getElem?_eq_getElem (by omega)⟩
    have hca := ha c (List.mem_of_getElem? hi)
    have hnx : (a.map (· * 65536)).take (x + 1) = (a.map (· * 65536)).take x ++ [(c * 65536)] := Pl.take_snoc (by rw [List.getElem?_map, hi]; rfl)
    have hcar : Pl.carC ((a.map (· * 65536)).take x) 0 ≤ 4503599627370496 := Pl.carC_le _ _ (fun y hy => hbd y (List.mem_of_mem_take hy)) (by decide)
    refine HW_skip rfl ?_
    refine gn_sq ?_
    refine HW_seq rfl ?_
    refine HW_block rfl ?_
    refine HW_seq rfl ?_
    refine HW_text (.pure 0 (.pure 1 (.pure 2 (.pure 3 (.pure 4 (.pure 5 (.pure 6 .done))))))) (by kernel_rfl) ?_
    refine rw_p rfl rfl (y_move rfl) ?_
    refine rw_p rfl rfl (y_indexP rfl rfl ar142 (Int.natCast_nonneg _) (by omega)) ?_
    refine rw_p rfl rfl (y_load rfl sc35 (hm.nt 2 rfl) (getU hi)) ?_
    refine rw_p rfl rfl (y_shl rfl rfl (by decide) (u_shl (k := 16) rfl (by decide) (by omega))) ?_
    refine rw_p rfl rfl (y_move rfl) ?_
    refine rw_p rfl rfl (y_add rfl rfl (u_add (by omega))) ?_
    refine rw_p rfl rfl (y_assign rfl) ?_
    refine rw_done ?_
    refine gn_sq ?_
    refine HW_seq rfl ?_
    refine HW_text (.pure 0 (.pure 1 (.pure 2 (.pure 3 (.act 4 .done))))) (by kernel_rfl) ?_
    refine rw_p rfl rfl (y_move rfl) ?_
    refine rw_p rfl rfl (y_move rfl) ?_
    refine rw_p rfl rfl (y_and_ rfl rfl (u_and (k := 32) (by omega) 4294967295 rfl (by decide))) ?_
    refine rw_p rfl rfl (y_indexP rfl rfl ar142 (Int.natCast_nonneg _) (by omega)) ?_
    refine a_store rfl rfl rfl rfl sz35 rfl hm 0 rfl (by rw [Nat.ble_eq, lenU, List.length_append, Pl.carL_len, List.length_take, hxl, List.length_replicate]; simp only [List.length_singleton]; omega) fun w hm => ?_
    have hm2 : Mem w0 w No [(m3, .row 142 (upds ((Pl.carL ((a.map (· * 65536)).take x) 0 ++ List.replicate (4 - x) 0).flatMap encU) (0 + x * 1) [.int .u64 ((((c * 65536) + Pl.carC ((a.map (· * 65536)).take x) 0) % Pl.wB : Nat) : Int)])), (m2, .row 142 [.int .u64 0, .int .u64 0, .int .u64 0, .int .u64 0]), (m1, .row 142 (a.flatMap encU))] := hm
    rw [setU, fill_next (by rw [Pl.carL_len, List.length_take, hxl]; omega) (by omega), ← Pl.carL_app, ← hnx] at hm2
    refine rw_done ?_
    refine gn_sq ?_
    refine HW_text (.pure 0 (.pure 1 (.pure 2 .done))) (by kernel_rfl) ?_
    refine rw_p rfl rfl (y_move rfl) ?_
    refine rw_p rfl rfl (y_shr rfl rfl (by decide) (u_shr (k := 32) rfl (by decide))) ?_
    refine rw_p rfl rfl (y_assign rfl) ?_
    refine rw_done ?_
    refine gn_bl ?_
    refine gn_sq ?_
    refine HW_text (.pure 0 (.pure 1 (.pure 2 .done))) (by kernel_rfl) ?_
    refine rw_p rfl rfl (y_move rfl) ?_
    refine rw_p rfl rfl (y_add rfl rfl (i64w (by omega) (by omega))) ?_
    refine rw_p rfl rfl (y_assign rfl) ?_
    refine rw_done ?_
    refine next (x + 1) (by omega) ⟨hm2, by omega⟩ ⟨nx x, by rw [hnx, Pl.carC_app]; rfl, rfl, rfl, rfl, trivial⟩
  ·
    simp only [decide_eq_false_iff_not] at hc0
    obtain rfl : x = 4 := by omega
    rw [List.take_of_length_le (by rw [hxl]; exact Nat.le_refl _), Nat.sub_self, List.replicate_zero, List.append_nil] at hm
    refine HW_exit rfl ?_
    refine gx_sq (gx_lp ?_)
    refine gx_here ?_
    refine gn_sq ?_
    refine HW_seq rfl ?_
    refine HW_text (.pure 0 (.act 1 .done)) (by kernel_rfl) ?_
    refine rw_p rfl rfl (y_loadA (s := 4) (vs := ((Pl.carL (a.map (· * 65536)) 0).flatMap encU)) rfl ag142 (hm.nt 0 rfl) (nthsU (show (Pl.carL (a.map (· * 65536)) 0).length = 4 by rw [Pl.carL_len, hxl]))) ?_
    refine a_store rfl rfl rfl rfl (sz142.trans (congrArg some (lenU4 (show (Pl.carL (a.map (· * 65536)) 0).length = 4 by rw [Pl.carL_len, hxl])).symm)) (oneU _) hm 1 rfl (by rw [Nat.ble_eq, lenU4 (show (Pl.carL (a.map (· * 65536)) 0).length = 4 by rw [Pl.carL_len, hxl])]; exact Nat.le_refl 4) fun w hm => ?_
    rw [upds_z4 (show (Pl.carL (a.map (· * 65536)) 0).length = 4 by rw [Pl.carL_len, hxl])] at hm
    refine rw_done ?_
    refine gn_sq ?_
    refine HW_ret rfl ?_
    refine toR (fin hret rfl (.cell rfl (run_loadVar_a (vs := ((Pl.carL (a.map (· * 65536)) 0).flatMap encU)) ag142 (hm.get (k := 1) rfl) (nthsU (show (Pl.carL (a.map (· * 65536)) 0).length = 4 by rw [Pl.carL_len, hxl]))) .nil) .one ?_)
    exact ⟨rfl, hm.to⟩

set_option maxHeartbeats 800000 in
theorem r2_plus (a b : List Nat) (w0 : World) (hl : a.length = 4) (ha : ∀ y ∈ a, y < 4294967296) (hl2 : b.length = 4) (hb : ∀ y ∈ b, y < 4294967296) : C Try.prog 79 [.agg ⟨a.flatMap encU⟩, .agg ⟨b.flatMap encU⟩] w0 fun v w' => v = .agg ⟨(Pl.plusW a b).flatMap encU⟩ ∧ Ext No w0 w' := by
  have hxl : (Pl.addL a b).length = 4 := by rw [Pl.addL_len (by rw [hl, hl2]), hl]
  have hbd : ∀ y ∈ (Pl.addL a b), y ≤ 4503599627370496 := fun y hy => by
    obtain ⟨i, hi⟩ := List.mem_iff_getElem?.1 hy
    have hil := (List.getElem?_eq_some_iff.1 hi).1
    obtain ⟨c, h1⟩ : ∃ y_, a[i]? = some y_ := ⟨_, List.getElem?_eq_getElem (by omega)⟩
    obtain ⟨d, h2⟩ : ∃ y_, b[i]? = some y_ := ⟨_, List.getElem?_eq_getElem (by omega)⟩
    rw [Pl.addL_get h1 h2] at hi
    have := ha c (List.mem_of_getElem? h1)
    have := hb d (List.mem_of_getElem? h2)
    cases hi
    omega
  refine C_of Try.func79 rfl rfl rfl fun κ hret hnorm => ?_
  have hm := Mem.start w0
  refine HW_seq rfl ?_
  refine HW_text (.act 0 (.act 1 (.act 2 .done))) (by kernel_rfl) ?_
  refine a_box rfl rfl rfl rfl hm trivial fun m1 w hg_m1 hm hh => ?_
  refine a_box rfl rfl rfl rfl hm trivial fun m2 w hg_m2 hm hh => ?_
  refine a_alloc rfl rfl z142 hm trivial fun m3 w hg_m3 hm hh => ?_
  refine rw_done ?_
  refine gn_sq ?_
  refine HW_seq rfl ?_
  refine HW_text (.pure 0 .done) (by kernel_rfl) ?_
  refine rw_p rfl rfl (y_assign rfl) ?_
  refine rw_done ?_
  refine gn_sq ?_
  refine HW_seq rfl ?_
  refine HW_text (.act 0 .done) (by kernel_rfl) ?_
  refine a_alloc rfl rfl z142 hm trivial fun m4 w hg_m4 hm hh => ?_
  refine rw_done ?_
  refine gn_sq ?_
  refine HW_seq rfl ?_
  refine HW_seq rfl ?_
  refine HW_text (.pure 0 .done) (by kernel_rfl) ?_
  refine rw_p rfl rfl (y_assign rfl) ?_
  refine rw_done ?_
  refine gn_sq ?_
  refine HW_block rfl ?_
  refine HW_loopK (ι := Nat) rfl (ks := [2, 3, 4, 6]) (.cons rfl (.cons rfl (.cons rfl (.cons rfl .nil)))) (fun x => [(7, .int .i64 x), (5, .int .u64 (Pl.carC ((Pl.addL a b).take x) 0))]) (fun x w => Mem w0 w No [(m4, .row 142 ((Pl.carL ((Pl.addL a b).take x) 0 ++ List.replicate (4 - x) 0).flatMap encU)), (m3, .row 142 [.int .u64 0, .int .u64 0, .int .u64 0, .int .u64 0]), (m2, .row 142 (b.flatMap encU)), (m1, .row 142 (a.flatMap encU))] ∧ x ≤ 4) (fun x => 4 - x) 0 (⟨hm, Nat.zero_le _⟩) ⟨rfl, rfl, trivial⟩ (fun x w hM => ?_)
  obtain ⟨hm, hk⟩ := hM
  refine HW_seq rfl ?_
  refine HW_seq rfl ?_
  refine HW_text (.pure 0 (.pure 1 .done)) (by kernel_rfl) ?_
  refine rw_p rfl rfl (y_move rfl) ?_
  refine rw_p rfl rfl (y_lt rfl rfl) ?_
  refine rw_done ?_
  refine gn_sq ?_
  refine HW_cond rfl rfl (fun hc0 => ?_) (fun hc0 => ?_)
  ·
    simp only [decide_eq_true_eq] at hc0
    obtain ⟨c, hi⟩ : ∃ y_, a[x]? = some y_ := ⟨_, List.getElem?_eq_getElem (by omega)⟩
    have hca := ha c (List.mem_of_getElem? hi)
    obtain ⟨d, hj⟩ : ∃ y_, b[x]? = some y_ := ⟨_, List.getElem?_eq_getElem (by omega)⟩
    have hdb := hb d (List.mem_of_getElem? hj)
    have hnx : (Pl.addL a b).take (x + 1) = (Pl.addL a b).take x ++ [(c + d)] := Pl.take_snoc (Pl.addL_get hi hj)
    have hcar : Pl.carC ((Pl.addL a b).take x) 0 ≤ 4503599627370496 := Pl.carC_le _ _ (fun y hy => hbd y (List.mem_of_mem_take hy)) (by decide)
    refine HW_skip rfl ?_
    refine gn_sq ?_
    refine HW_seq rfl ?_
    refine HW_block rfl ?_
    refine HW_seq rfl ?_
    refine HW_draw (.pure 0 (.pure 1 (.pure 2 (.pure 3 (.pure 4 (.pure 5 (.pure 6 (.pure 7 (.pure 8 (.pure 9 .done)))))))))) No mix (by kernel_rfl) hm fun w hw hm0 hh => ?_
    have hm := hm0
    refine rw_p rfl rfl (y_move rfl) ?_
    refine rw_p rfl rfl (y_indexP rfl rfl ar142 (Int.natCast_nonneg _) (by omega)) ?_
    refine rw_p rfl rfl (y_load rfl sc35 (hm0.nd 3 rfl id) (getU hi)) ?_
    refine rw_p rfl rfl (y_move rfl) ?_
    refine rw_p rfl rfl (y_indexP rfl rfl ar142 (Int.natCast_nonneg _) (by omega)) ?_
    refine rw_p rfl rfl (y_load rfl sc35 (hm0.nd 2 rfl id) (getU hj)) ?_
    refine rw_p rfl rfl (y_add rfl rfl (u_add (by omega))) ?_
    refine rw_p rfl rfl (y_move rfl) ?_
    refine rw_p rfl rfl (y_add rfl rfl (u_add (by omega))) ?_
    refine rw_p rfl rfl (y_assign rfl) ?_
    refine rw_done ?_
    refine gn_sq ?_
    refine HW_seq rfl ?_
    refine HW_text (.pure 0 (.pure 1 (.pure 2 (.pure 3 (.act 4 .done))))) (by kernel_rfl) ?_
    refine rw_p rfl rfl (y_move rfl) ?_
    refine rw_p rfl rfl (y_move rfl) ?_
    refine rw_p rfl rfl (y_and_ rfl rfl (u_and (k := 32) (by omega) 4294967295 rfl (by decide))) ?_
    refine rw_p rfl rfl (y_indexP rfl rfl ar142 (Int.natCast_nonneg _) (by omega)) ?_
    refine a_store rfl rfl rfl rfl sz35 rfl hm 0 rfl (by rw [Nat.ble_eq, lenU, List.length_append, Pl.carL_len, List.length_take, hxl, List.length_replicate]; simp only [List.length_singleton]; omega) fun w hm => ?_
    have hm2 : Mem w0 w No [(m4, .row 142 (upds ((Pl.carL ((Pl.addL a b).take x) 0 ++ List.replicate (4 - x) 0).flatMap encU) (0 + x * 1) [.int .u64 ((((c + d) + Pl.carC ((Pl.addL a b).take x) 0) % Pl.wB : Nat) : Int)])), (m3, .row 142 [.int .u64 0, .int .u64 0, .int .u64 0, .int .u64 0]), (m2, .row 142 (b.flatMap encU)), (m1, .row 142 (a.flatMap encU))] := hm
    rw [setU, fill_next (by rw [Pl.carL_len, List.length_take, hxl]; omega) (by omega), ← Pl.carL_app, ← hnx] at hm2
    refine rw_done ?_
    refine gn_sq ?_
    refine HW_text (.pure 0 (.pure 1 (.pure 2 .done))) (by kernel_rfl) ?_
    refine rw_p rfl rfl (y_move rfl) ?_
    refine rw_p rfl rfl (y_shr rfl rfl (by decide) (u_shr (k := 32) rfl (by decide))) ?_
    refine rw_p rfl rfl (y_assign rfl) ?_
    refine rw_done ?_
    refine gn_bl ?_
    refine gn_sq ?_
    refine HW_text (.pure 0 (.pure 1 (.pure 2 .done))) (by kernel_rfl) ?_
    refine rw_p rfl rfl (y_move rfl) ?_
    refine rw_p rfl rfl (y_add rfl rfl (i64w (by omega) (by omega))) ?_
    refine rw_p rfl rfl (y_assign rfl) ?_
    refine rw_done ?_
    refine next (x + 1) (by omega) ⟨hm2, by omega⟩ ⟨nx x, by rw [hnx, Pl.carC_app]; rfl, rfl, rfl, rfl, rfl, trivial⟩
  ·
    simp only [decide_eq_false_iff_not] at hc0
    obtain rfl : x = 4 := by omega
    rw [List.take_of_length_le (by rw [hxl]; exact Nat.le_refl _), Nat.sub_self, List.replicate_zero, List.append_nil] at hm
    refine HW_exit rfl ?_
    refine gx_sq (gx_lp ?_)
    refine gx_here ?_
    refine gn_sq ?_
    refine HW_seq rfl ?_
    refine HW_text (.pure 0 (.act 1 .done)) (by kernel_rfl) ?_
    refine rw_p rfl rfl (y_loadA (s := 4) (vs := ((Pl.carL (Pl.addL a b) 0).flatMap encU)) rfl ag142 (hm.nt 0 rfl) (nthsU (show (Pl.carL (Pl.addL a b) 0).length = 4 by rw [Pl.carL_len, hxl]))) ?_
    refine a_store rfl rfl rfl rfl (sz142.trans (congrArg some (lenU4 (show (Pl.carL (Pl.addL a b) 0).length = 4 by rw [Pl.carL_len, hxl])).symm)) (oneU _) hm 1 rfl (by rw [Nat.ble_eq, lenU4 (show (Pl.carL (Pl.addL a b) 0).length = 4 by rw [Pl.carL_len, hxl])]; exact Nat.le_refl 4) fun w hm => ?_
    rw [upds_z4 (show (Pl.carL (Pl.addL a b) 0).length = 4 by rw [Pl.carL_len, hxl])] at hm
    refine rw_done ?_
    refine gn_sq ?_
    refine HW_ret rfl ?_
    refine toR (fin hret rfl (.cell rfl (run_loadVar_a (vs := ((Pl.carL (Pl.addL a b) 0).flatMap encU)) ag142 (hm.get (k := 1) rfl) (nthsU (show (Pl.carL (Pl.addL a b) 0).length = 4 by rw [Pl.carL_len, hxl]))) .nil) .one ?_)
    exact ⟨rfl, hm.to⟩

set_option maxHeartbeats 800000 in
theorem r2_times (a : List Nat) (m : Nat) (w0 : World) (hl : a.length = 4) (ha : ∀ y ∈ a, y < 4294967296) (hmb : m < 68719476736) : C Try.prog 78 [.agg ⟨a.flatMap encU⟩, .int .u64 (m : Int)] w0 fun v w' => v = .agg ⟨(Pl.timesW a m).flatMap encU⟩ ∧ Ext No w0 w' := by
  refine C_of Try.func78 rfl rfl rfl fun κ hret hnorm => ?_
  have hm := Mem.start w0
  refine HW_seq rfl ?_
  refine HW_text (.act 0 (.act 1 .done)) (by kernel_rfl) ?_
  refine a_box rfl rfl rfl rfl hm trivial fun m1 w hg_m1 hm hh => ?_
  refine a_alloc rfl rfl z142 hm trivial fun m2 w hg_m2 hm hh => ?_
  refine rw_done ?_
  refine gn_sq ?_
  refine HW_seq rfl ?_
  refine HW_text (.pure 0 (.pure 1 (.pure 2 .done))) (by kernel_rfl) ?_
  refine rw_p rfl rfl (y_move rfl) ?_
  refine rw_p rfl rfl (y_and_ rfl rfl (u_and (k := 16) (by omega) 65535 rfl (by decide))) ?_
  refine rw_p rfl rfl (y_assign rfl) ?_
  refine rw_done ?_
  refine gn_sq ?_
  refine HW_seq rfl ?_
  refine HW_text (.pure 0 (.pure 1 (.pure 2 .done))) (by kernel_rfl) ?_
  refine rw_p rfl rfl (y_move rfl) ?_
  refine rw_p rfl rfl (y_shr rfl rfl (by decide) (u_shr (k := 16) rfl (by decide))) ?_
  refine rw_p rfl rfl (y_assign rfl) ?_
  refine rw_done ?_
  refine gn_sq ?_
  refine HW_seq rfl ?_
  refine HW_draw (.pure 0 (.pure 1 (.pure 3 (.pure 4 (.act 2 (.cut (.act 5 (.act 6 (.act 7 (.act 8 .done)))))))))) No mix (by kernel_rfl) hm fun w hw hm0 hh => ?_
  have hm := hm0
  refine rw_p rfl rfl (y_loadA (s := 4) (vs := (a.flatMap encU)) rfl ag142 (hm0.nd 1 rfl id) (nthsU hl)) ?_
  refine rw_p rfl rfl (y_move rfl) ?_
  refine rw_p rfl rfl (y_loadA (s := 4) (vs := (a.flatMap encU)) rfl ag142 (hm0.nd 1 rfl id) (nthsU hl)) ?_
  refine rw_p rfl rfl (y_move rfl) ?_
  refine a_call rfl rfl rfl go80 (r2_scale a (m % 65536) _ hl ha (by omega)) fun v w hR => ?_
  obtain ⟨rfl, hE⟩ := hR
  refine ⟨hh.ext hE, ?_⟩
  replace hm := hm.ext hE
  replace hh := hh.ext hE
  refine a_cut ?_
  refine a_call rfl rfl rfl go80 (r2_scale a (m / 65536) _ hl ha (by omega)) fun v w hR => ?_
  obtain ⟨rfl, hE⟩ := hR
  refine ⟨trivial, ?_⟩
  replace hm := hm.ext hE
  refine a_call rfl rfl rfl go81 (r2_shift (Pl.scaleW a (m / 65536)) _ (by rw [Pl.scaleW_len, hl]) (Pl.carL_lt _ _)) fun v w hR => ?_
  obtain ⟨rfl, hE⟩ := hR
  refine ⟨trivial, ?_⟩
  replace hm := hm.ext hE
  refine a_call rfl rfl rfl go79 (C.as (v := .agg ⟨(Pl.timesW a m).flatMap encU⟩) (r2_plus (Pl.scaleW a (m % 65536)) (Pl.scaleW (Pl.scaleW a (m / 65536)) 65536) _ (by rw [Pl.scaleW_len, hl]) (Pl.carL_lt _ _) (by rw [Pl.scaleW_len, Pl.scaleW_len, hl]) (Pl.carL_lt _ _)) rfl) fun v w hR => ?_
  obtain ⟨rfl, hE⟩ := hR
  refine ⟨trivial, ?_⟩
  replace hm := hm.ext hE
  refine a_store rfl rfl rfl rfl (sz142.trans (congrArg some (lenU4 (Pl.timesW_len (m := m) hl)).symm)) (oneU _) hm 0 rfl (by rw [Nat.ble_eq, lenU4 (Pl.timesW_len (m := m) hl)]; exact Nat.le_refl 4) fun w hm => ?_
  rw [upds_z4 (Pl.timesW_len (m := m) hl)] at hm
  refine rw_done ?_
  refine gn_sq ?_
  refine HW_ret rfl ?_
  refine toR (fin hret rfl (.cell rfl (run_loadVar_a (vs := ((Pl.timesW a m).flatMap encU)) ag142 (hm.get (k := 0) rfl) (nthsU (Pl.timesW_len hl))) .nil) .one ?_)
  exact ⟨rfl, hm.to⟩

set_option maxHeartbeats 1600000 in
theorem r2_least (m n : Nat) (cubes : Bool) (w0 : World) (hmb : m < 68719476736) (hn : n < 4294967296) : C Try.prog 77 [.int .u64 (m : Int), .int .u64 (n : Int), .bool cubes] w0 fun v w' => v = .bool (Pl.rootOk n cubes m) ∧ Ext No w0 w' := by
  have hl0 : ([m % 4294967296, m / 4294967296, 0, 0] : List Nat).length = 4 := rfl
  have hv0 : Pl.valW [m % 4294967296, m / 4294967296, 0, 0] = m := by simp only [Pl.valW, Pl.wB]; omega
  have ha0 : ∀ y ∈ ([m % 4294967296, m / 4294967296, 0, 0] : List Nat), y < 4294967296 := by intro y hy; simp only [List.mem_cons, List.not_mem_nil, or_false] at hy; omega
  have hmm : m * m < 4722366482869645213696 := Nat.lt_of_le_of_lt (Nat.mul_le_mul (Nat.le_of_lt_succ hmb) (Nat.le_of_lt_succ hmb)) (by decide)
  have hmmm : m * m * m ≤ 4722366482869645213696 * 68719476735 := Nat.mul_le_mul (Nat.le_of_lt hmm) (Nat.le_of_lt_succ hmb)
  have hv1 : Pl.valW (Pl.timesW [m % 4294967296, m / 4294967296, 0, 0] m) = m * m := by rw [Pl.timesW_val hl0 (by rw [hv0]; exact Nat.lt_of_lt_of_le hmm (by decide)), hv0]
  have hl1 : (Pl.timesW [m % 4294967296, m / 4294967296, 0, 0] m).length = 4 := Pl.timesW_len hl0
  have hv2 : Pl.valW (Pl.timesW (Pl.timesW [m % 4294967296, m / 4294967296, 0, 0] m) m) = m * m * m := by rw [Pl.timesW_val hl1 (by rw [hv1]; exact Nat.lt_of_le_of_lt hmmm (by decide)), hv1]
  have hl2 : (Pl.timesW (Pl.timesW [m % 4294967296, m / 4294967296, 0, 0] m) m).length = 4 := Pl.timesW_len hl1
  obtain ⟨A, hA⟩ : ∃ l, (bif cubes then Pl.timesW (Pl.timesW [m % 4294967296, m / 4294967296, 0, 0] m) m else Pl.timesW [m % 4294967296, m / 4294967296, 0, 0] m) = l := ⟨_, rfl⟩
  obtain ⟨B, hB⟩ : ∃ l, ((bif cubes then [0, 0, 0, n] else [0, 0, n, 0]) : List Nat) = l := ⟨_, rfl⟩
  have hAl : A.length = 4 := by
    rw [← hA]
    cases cubes
    · exact hl1
    · exact hl2
  have hBl : B.length = 4 := by rw [← hB]; cases cubes <;> rfl
  have hAv : Pl.valW A = Pl.powN m cubes := by
    rw [← hA]
    cases cubes
    · exact hv1
    · exact hv2
  have hBv : Pl.valW B = Pl.topN n cubes := by rw [← hB]; cases cubes <;> simp only [cond_true, cond_false, Pl.valW, Pl.topN, Pl.wB] <;> omega
  have hAt : ∀ y ∈ A, y < Pl.wB := by rw [← hA]; cases cubes <;> exact Pl.timesW_lt
  have hBt : ∀ y ∈ B, y < Pl.wB := by rw [← hB]; cases cubes <;> (intro y hy; simp only [cond_true, cond_false, List.mem_cons, List.not_mem_nil, or_false] at hy; simp only [Pl.wB]; omega)
  refine C_of Try.func77 rfl rfl rfl fun κ hret hnorm => ?_
  have hm := Mem.start w0
  refine HW_seq rfl ?_
  refine HW_text (.pure 0 .done) (by kernel_rfl) ?_
  refine rw_p rfl rfl (y_assign rfl) ?_
  refine rw_done ?_
  refine gn_sq ?_
  refine HW_seq rfl ?_
  refine HW_text (.pure 0 (.pure 1 (.pure 2 (.pure 3 (.pure 4 (.pure 5 (.act 6 (.act 7 (.act 8 .done))))))))) (by kernel_rfl) ?_
  refine rw_p rfl rfl (y_move rfl) ?_
  refine rw_p rfl rfl (y_and_ rfl rfl (u_and (k := 32) (by omega) 4294967295 rfl (by decide))) ?_
  refine rw_p rfl rfl (y_move rfl) ?_
  refine rw_p rfl rfl (y_shr rfl rfl (by decide) (u_shr (k := 32) rfl (by decide))) ?_
  refine rw_p rfl rfl (y_build (cs := [_, _, _, _]) z142 ft142 rfl rfl rfl rfl rfl) ?_
  refine rw_p rfl rfl (y_move rfl) ?_
  refine a_call rfl rfl rfl go78 (r2_times [m % 4294967296, m / 4294967296, 0, 0] m _ hl0 ha0 hmb) fun v w hR => ?_
  obtain ⟨rfl, hE⟩ := hR
  refine ⟨trivial, ?_⟩
  replace hm := hm.ext hE
  refine a_alloc rfl rfl z142 hm trivial fun m1 w hg_m1 hm hh => ?_
  refine a_store rfl rfl rfl rfl (sz142.trans (congrArg some (lenU4 hl1).symm)) (oneU _) hm 0 rfl (by rw [Nat.ble_eq, lenU4 hl1]; exact Nat.le_refl 4) fun w hm => ?_
  rw [upds_z4 hl1] at hm
  refine rw_done ?_
  refine gn_sq ?_
  refine HW_seq rfl ?_
  refine HW_text (.pure 0 (.pure 1 (.act 2 (.act 3 .done)))) (by kernel_rfl) ?_
  refine rw_p rfl rfl (y_move rfl) ?_
  refine rw_p rfl rfl (y_build (cs := [_, _, _, _]) z142 ft142 rfl rfl rfl rfl rfl) ?_
  refine a_alloc rfl rfl z142 hm trivial fun m2 w hg_m2 hm hh => ?_
  refine a_store rfl rfl rfl rfl sz142 rfl hm 0 rfl rfl fun w hm => ?_
  refine rw_done ?_
  refine gn_sq ?_
  refine HW_via (ι := Unit) rfl (ks := [0, 1, 2, 6, 7, 8]) (.cons rfl (.cons rfl (.cons rfl (.cons rfl (.cons rfl (.cons rfl .nil)))))) (fun u9 => []) (fun u9 w => Mem w0 w No [(m2, .row 142 (B.flatMap encU)), (m1, .row 142 (A.flatMap encU))]) ?_ (fun u9 w hM => ?_)
  ·
    refine HW_seq rfl ?_
    refine HW_text (.pure 0 .done) (by kernel_rfl) ?_
    refine rw_p rfl rfl (y_move rfl) ?_
    refine rw_done ?_
    refine gn_sq ?_
    refine HW_cond rfl rfl (fun hc0 => ?_) (fun hc0 => ?_)
    ·
      subst hc0
      simp only [cond_true] at hA hB
      subst hA hB
      refine HW_seq rfl ?_
      refine HW_text (.pure 0 (.pure 1 (.act 2 (.act 3 .done)))) (by kernel_rfl) ?_
      refine rw_p rfl rfl (y_loadA (s := 4) (vs := ((Pl.timesW [m % 4294967296, m / 4294967296, 0, 0] m).flatMap encU)) rfl ag142 (hm.nt 1 rfl) (nthsU hl1)) ?_
      refine rw_p rfl rfl (y_move rfl) ?_
      refine a_call rfl rfl rfl go78 (r2_times (Pl.timesW [m % 4294967296, m / 4294967296, 0, 0] m) m _ hl1 Pl.timesW_lt hmb) fun v w hR => ?_
      obtain ⟨rfl, hE⟩ := hR
      refine ⟨trivial, ?_⟩
      replace hm := hm.ext hE
      refine a_store rfl rfl rfl rfl (sz142.trans (congrArg some (lenU4 hl2).symm)) (oneU _) hm 1 rfl (by rw [Nat.ble_eq, lenU4 hl2, lenU4 hl1]; exact Nat.le_refl 4) fun w hm => ?_
      rw [upds_U hl2 hl1] at hm
      refine rw_done ?_
      refine gn_sq ?_
      refine HW_text (.pure 0 (.pure 1 (.act 2 .done))) (by kernel_rfl) ?_
      refine rw_p rfl rfl (y_move rfl) ?_
      refine rw_p rfl rfl (y_build (cs := [_, _, _, _]) z142 ft142 rfl rfl rfl rfl rfl) ?_
      refine a_store rfl rfl rfl rfl sz142 rfl hm 0 rfl rfl fun w hm => ?_
      refine rw_done ?_
      exact gn_vi () hm ⟨rfl, rfl, rfl, rfl, rfl, rfl, trivial⟩
    ·
      subst hc0
      simp only [cond_false] at hA hB
      subst hA hB
      refine HW_skip rfl ?_
      exact gn_vi () hm ⟨rfl, rfl, rfl, rfl, rfl, rfl, trivial⟩
  ·
    have hm := hM
    refine HW_seq rfl ?_
    refine HW_seq rfl ?_
    refine HW_text (.pure 0 .done) (by kernel_rfl) ?_
    refine rw_p rfl rfl (y_assign rfl) ?_
    refine rw_done ?_
    refine gn_sq ?_
    refine HW_block rfl ?_
    refine HW_loopK (ι := Nat) rfl (ks := [7, 8]) (.cons rfl (.cons rfl .nil)) (fun y => [(9, .int .i64 (3 - (y : Int)))]) (fun y w => Mem w0 w No [(m2, .row 142 (B.flatMap encU)), (m1, .row 142 (A.flatMap encU))] ∧ y ≤ 4 ∧ ∀ j, 4 ≤ j + y → A.getD j 0 = B.getD j 0) (fun y => 4 - y) 0 (⟨hm, Nat.zero_le _, fun j hj => by rw [List.getD_eq_getElem?_getD, List.getD_eq_getElem?_getD, List.getElem?_eq_none (by omega), List.getElem?_eq_none (by omega)]⟩) ⟨rfl, trivial⟩ (fun y w hM => ?_)
    obtain ⟨hm, hk, hup⟩ := hM
    refine HW_seq rfl ?_
    refine HW_seq rfl ?_
    refine HW_text (.pure 0 (.pure 1 .done)) (by kernel_rfl) ?_
    refine rw_p rfl rfl (y_move rfl) ?_
    refine rw_p rfl rfl (y_ge rfl rfl) ?_
    refine rw_done ?_
    refine gn_sq ?_
    refine HW_cond rfl rfl (fun hc1 => ?_) (fun hc1 => ?_)
    ·
      simp only [decide_eq_true_eq] at hc1
      have hiy : (3 - (y : Int)).toNat = 3 - y := by omega
      have hAi : A[(3 - (y : Int)).toNat]? = some (A.getD (3 - y) 0) := by rw [hiy, List.getD_eq_getElem?_getD, List.getElem?_eq_getElem (by omega)]; rfl
      have hBi : B[(3 - (y : Int)).toNat]? = some (B.getD (3 - y) 0) := by rw [hiy, List.getD_eq_getElem?_getD, List.getElem?_eq_getElem (by omega)]; rfl
      refine HW_skip rfl ?_
      refine gn_sq ?_
      refine HW_seq rfl ?_
      refine HW_block rfl ?_
      refine HW_seq rfl ?_
      refine HW_draw (.pure 0 (.pure 1 (.pure 2 (.pure 3 (.pure 4 (.pure 5 (.pure 6 .done))))))) No mix (by kernel_rfl) hm fun w hw hm0 hh => ?_
      have hm := hm0
      refine rw_p rfl rfl (y_move rfl) ?_
      refine rw_p rfl rfl (y_indexP rfl rfl ar142 (by omega) (by omega)) ?_
      refine rw_p rfl rfl (y_load rfl sc35 (hm0.nd 1 rfl id) (getU hAi)) ?_
      refine rw_p rfl rfl (y_move rfl) ?_
      refine rw_p rfl rfl (y_indexP rfl rfl ar142 (by omega) (by omega)) ?_
      refine rw_p rfl rfl (y_load rfl sc35 (hm0.nd 0 rfl id) (getU hBi)) ?_
      refine rw_p rfl rfl (y_ne rfl rfl) ?_
      refine rw_done ?_
      refine gn_sq ?_
      refine HW_cond rfl rfl (fun hc2 => ?_) (fun hc2 => ?_)
      ·
        simp only [decide_eq_true_eq] at hc2
        have hcm := Pl.cmpW hAl hBl hAt hBt (i := 3 - y) (by omega) (fun j hj => hup j (by omega)) (by omega)
        rw [hAv, hBv] at hcm
        refine HW_seq rfl ?_
        refine HW_draw (.pure 0 (.pure 1 (.pure 2 (.pure 3 (.pure 4 (.pure 5 (.pure 6 (.pure 7 .done)))))))) No mix (by kernel_rfl) hm fun w hw hm0 hh => ?_
        have hm := hm0
        refine rw_p rfl rfl (y_move rfl) ?_
        refine rw_p rfl rfl (y_indexP rfl rfl ar142 (by omega) (by omega)) ?_
        refine rw_p rfl rfl (y_load rfl sc35 (hm0.nd 1 rfl id) (getU hAi)) ?_
        refine rw_p rfl rfl (y_move rfl) ?_
        refine rw_p rfl rfl (y_indexP rfl rfl ar142 (by omega) (by omega)) ?_
        refine rw_p rfl rfl (y_load rfl sc35 (hm0.nd 0 rfl id) (getU hBi)) ?_
        refine rw_p rfl rfl (y_lt rfl rfl) ?_
        refine rw_p rfl rfl (y_assign rfl) ?_
        refine rw_done ?_
        refine gn_sq ?_
        refine HW_ret rfl ?_
        refine gr_bl (gr_sq (gr_lp (gr_bl (gr_sq ?_))))
        refine toR (fin hret rfl (.tmp rfl .nil) .one ?_)
        exact ⟨congrArg Value.bool (by unfold Pl.rootOk; rw [Bool.eq_iff_iff, Nat.ble_eq, decide_eq_true_eq, ← hcm]; omega), hm.to⟩
      ·
        simp only [decide_eq_false_iff_not, Decidable.not_not] at hc2
        refine HW_skip rfl ?_
        refine gn_bl ?_
        refine gn_sq ?_
        refine HW_text (.pure 0 (.pure 1 (.pure 2 .done))) (by kernel_rfl) ?_
        refine rw_p rfl rfl (y_move rfl) ?_
        refine rw_p rfl rfl (y_sub rfl rfl (i64w (by omega) (by omega))) ?_
        refine rw_p rfl rfl (y_assign rfl) ?_
        refine rw_done ?_
        refine next (y + 1) (by omega) ⟨hm, by omega, fun j hj => ?_⟩ ⟨congrArg (fun z => some (Value.int .i64 z)) (show (3 : Int) - (y : Int) - 1 = 3 - ((y + 1 : Nat) : Int) by omega), rfl, rfl, trivial⟩
        rcases Nat.lt_or_ge j (4 - y) with h | h
        · obtain rfl : j = 3 - y := by omega
          omega
        · exact hup j (by omega)
    ·
      simp only [decide_eq_false_iff_not] at hc1
      have hyy : y = 4 := by omega
      refine HW_exit rfl ?_
      refine gx_sq (gx_lp ?_)
      refine gx_here ?_
      refine gn_sq ?_
      refine HW_seq rfl ?_
      refine HW_text (.pure 0 .done) (by kernel_rfl) ?_
      refine rw_p rfl rfl (y_assign rfl) ?_
      refine rw_done ?_
      refine gn_sq ?_
      refine HW_ret rfl ?_
      refine toR (fin hret rfl (.tmp rfl .nil) .one ?_)
      have hle := Pl.eqW hAl hBl (fun j => hup j (by omega))
      rw [hAv, hBv] at hle
      exact ⟨congrArg Value.bool (show true = _ by unfold Pl.rootOk; rw [eq_comm, Nat.ble_eq]; exact hle), hm.to⟩

set_option maxHeartbeats 400000 in
theorem r2_root (n : Nat) (cubes : Bool) (w0 : World) (hn : n < 4294967296) (hg : Pl.rootGood n cubes = true) (h0 : Pl.rootOk n cubes (bif cubes then 34359738368 else 68719476736) = false) : C Try.prog 74 [.int .u64 (n : Int), .bool cubes] w0 fun v w' => v = .int .u32 ((Pl.rootW n cubes).toNat : Int) ∧ Ext No w0 w' := by
  refine C_of Try.func74 rfl rfl rfl fun κ hret hnorm => ?_
  have hm := Mem.start w0
  refine HW_seq rfl ?_
  refine HW_text (.pure 0 .done) (by kernel_rfl) ?_
  refine rw_p rfl rfl (y_assign rfl) ?_
  refine rw_done ?_
  refine gn_sq ?_
  refine HW_seq rfl ?_
  refine HW_text (.pure 0 .done) (by kernel_rfl) ?_
  refine rw_p rfl rfl (y_assign rfl) ?_
  refine rw_done ?_
  refine gn_sq ?_
  refine HW_seq rfl ?_
  refine HW_text (.pure 0 .done) (by kernel_rfl) ?_
  refine rw_p rfl rfl (y_assign rfl) ?_
  refine rw_done ?_
  refine gn_sq ?_
  refine HW_via (ι := Unit) rfl (ks := [0, 1, 4, 5]) (.cons rfl (.cons rfl (.cons rfl (.cons rfl .nil)))) (fun u9 => [(6, .int .u64 (((bif cubes then 34359738368 else 68719476736 : Nat) : Nat) : Int))]) (fun u9 w => Mem w0 w No []) ?_ (fun u9 w hM => ?_)
  ·
    refine HW_seq rfl ?_
    refine HW_text (.pure 0 .done) (by kernel_rfl) ?_
    refine rw_p rfl rfl (y_move rfl) ?_
    refine rw_done ?_
    refine gn_sq ?_
    refine HW_cond rfl rfl (fun hc0 => ?_) (fun hc0 => ?_)
    ·
      subst hc0
      refine HW_text (.pure 0 .done) (by kernel_rfl) ?_
      refine rw_p rfl rfl (y_assign rfl) ?_
      refine rw_done ?_
      exact gn_vi () hm ⟨rfl, rfl, rfl, rfl, rfl, trivial⟩
    ·
      subst hc0
      refine HW_skip rfl ?_
      exact gn_vi () hm ⟨rfl, rfl, rfl, rfl, rfl, trivial⟩
  ·
    have hm := hM
    have hhi : (bif cubes then 34359738368 else 68719476736 : Nat) ≤ 68719476736 ∧ 0 < (bif cubes then 34359738368 else 68719476736 : Nat) := by cases cubes <;> decide
    refine HW_seq rfl ?_
    refine HW_block rfl ?_
    refine HW_loopK (ι := Nat × Nat) rfl (ks := [0, 1, 4]) (.cons rfl (.cons rfl (.cons rfl .nil))) (fun x => [(5, .int .u64 (x.1 : Int)), (6, .int .u64 (x.2 : Int))]) (fun x w => Mem w0 w No [] ∧ Pl.rootOk n cubes x.1 = true ∧ Pl.rootOk n cubes x.2 = false ∧ x.1 < x.2 ∧ x.2 ≤ 68719476736) (fun x => x.2 - x.1) (0, (bif cubes then 34359738368 else 68719476736 : Nat)) (⟨hm, by cases cubes <;> simp [Pl.rootOk, Pl.powN], h0, hhi.2, hhi.1⟩) ⟨rfl, rfl, trivial⟩ (fun x w hM => ?_)
    obtain ⟨hm, h1, h2, h3, h4⟩ := hM
    refine HW_seq rfl ?_
    refine HW_seq rfl ?_
    refine HW_text (.pure 0 (.pure 1 (.pure 2 (.pure 3 .done)))) (by kernel_rfl) ?_
    refine rw_p rfl rfl (y_move rfl) ?_
    refine rw_p rfl rfl (y_move rfl) ?_
    refine rw_p rfl rfl (y_sub rfl rfl (u_sub (by omega) (by omega))) ?_
    refine rw_p rfl rfl (y_gt rfl rfl) ?_
    refine rw_done ?_
    refine gn_sq ?_
    refine HW_cond rfl rfl (fun hc1 => ?_) (fun hc1 => ?_)
    ·
      obtain ⟨lo, hi⟩ := x
      simp only at h1 h2 h3 h4 hc1 ⊢
      simp only [decide_eq_true_eq] at hc1
      refine HW_skip rfl ?_
      refine gn_sq ?_
      refine HW_block rfl ?_
      refine HW_seq rfl ?_
      refine HW_text (.pure 0 (.pure 1 (.pure 2 (.pure 3 (.pure 4 .done))))) (by kernel_rfl) ?_
      refine rw_p rfl rfl (y_move rfl) ?_
      refine rw_p rfl rfl (y_move rfl) ?_
      refine rw_p rfl rfl (y_add rfl rfl (u_add (by omega))) ?_
      refine rw_p rfl rfl (y_quo rfl rfl (by decide) ((congrArg IntKind.u64.wrap (tdivN (lo + hi) 2)).trans (u64N.trans (by rw [Nat.mod_eq_of_lt (by omega)])))) ?_
      refine rw_p rfl rfl (y_assign rfl) ?_
      refine rw_done ?_
      refine gn_sq ?_
      refine HW_seq rfl ?_
      refine HW_text (.pure 0 (.pure 1 (.pure 2 (.act 3 .done)))) (by kernel_rfl) ?_
      refine rw_p rfl rfl (y_move rfl) ?_
      refine rw_p rfl rfl (y_move rfl) ?_
      refine rw_p rfl rfl (y_move rfl) ?_
      refine a_call rfl rfl rfl go77 (r2_least ((lo + hi) / 2) n cubes _ (by omega) hn) fun v w hR => ?_
      obtain ⟨rfl, hE⟩ := hR
      refine ⟨trivial, ?_⟩
      replace hm := hm.ext hE
      refine rw_done ?_
      refine gn_sq ?_
      refine HW_cond rfl rfl (fun hc2 => ?_) (fun hc2 => ?_)
      ·
        refine HW_text (.pure 0 (.pure 1 .done)) (by kernel_rfl) ?_
        refine rw_p rfl rfl (y_move rfl) ?_
        refine rw_p rfl rfl (y_assign rfl) ?_
        refine rw_done ?_
        refine gn_bl ?_
        first | exact next ((lo + hi) / 2, hi) (by simp only; omega) ⟨hm, hc2, h2, by simp only; omega, h4⟩ ⟨rfl, rfl, rfl, rfl, rfl, trivial⟩ | exact next (lo, (lo + hi) / 2) (by simp only; omega) ⟨hm, h1, hc2, by simp only; omega, by simp only; omega⟩ ⟨rfl, rfl, rfl, rfl, rfl, trivial⟩
      ·
        refine HW_text (.pure 0 (.pure 1 .done)) (by kernel_rfl) ?_
        refine rw_p rfl rfl (y_move rfl) ?_
        refine rw_p rfl rfl (y_assign rfl) ?_
        refine rw_done ?_
        refine gn_bl ?_
        first | exact next ((lo + hi) / 2, hi) (by simp only; omega) ⟨hm, hc2, h2, by simp only; omega, h4⟩ ⟨rfl, rfl, rfl, rfl, rfl, trivial⟩ | exact next (lo, (lo + hi) / 2) (by simp only; omega) ⟨hm, h1, hc2, by simp only; omega, by simp only; omega⟩ ⟨rfl, rfl, rfl, rfl, rfl, trivial⟩
    ·
      obtain ⟨lo, hi⟩ := x
      simp only at h1 h2 h3 h4 hc1 ⊢
      simp only [decide_eq_false_iff_not] at hc1
      obtain rfl : hi = lo + 1 := by omega
      refine HW_exit rfl ?_
      refine gx_sq (gx_lp ?_)
      refine gx_here ?_
      refine gn_sq ?_
      refine HW_seq rfl ?_
      refine HW_text (.pure 0 (.pure 1 (.pure 2 .done))) (by kernel_rfl) ?_
      refine rw_p rfl rfl (y_move rfl) ?_
      refine rw_p rfl rfl (y_conv rfl is35 it115 (W32N _)) ?_
      refine rw_p rfl rfl (y_assign rfl) ?_
      refine rw_done ?_
      refine gn_sq ?_
      refine HW_ret rfl ?_
      refine toR (fin hret rfl (.tmp rfl .nil) .one ?_)
      exact ⟨by rw [← Pl.root_is hg h1 h2], hm.to⟩

set_option maxHeartbeats 800000 in
theorem r2_primes (n : Nat) (w0 : World) (hn : n ≤ 64) : C Try.prog 73 [.int .i64 (n : Int)] w0 fun v w' => ∃ p c g b, v = .slice p n c ∧ Acc 35 1 p n c ((Pl.prs.take n).flatMap encU) g b ∧ Mem w0 w' No [(g, b)] := by
  refine C_of Try.func73 rfl rfl rfl fun κ hret hnorm => ?_
  have hm := Mem.start w0
  refine HW_seq rfl ?_
  refine HW_text (.pure 0 .done) (by kernel_rfl) ?_
  refine rw_p rfl rfl (y_assign rfl) ?_
  refine rw_done ?_
  refine gn_sq ?_
  refine HW_seq rfl ?_
  refine HW_text (.pure 0 .done) (by kernel_rfl) ?_
  refine rw_p rfl rfl (y_assign rfl) ?_
  replace hm := hm.gapIn
  have ha_s := Acc.nil 35 1 none 0
  refine rw_done ?_
  refine gn_sq ?_
  refine HW_seq rfl ?_
  refine HW_seq rfl ?_
  refine HW_text (.pure 0 .done) (by kernel_rfl) ?_
  refine rw_p rfl rfl (y_assign rfl) ?_
  refine rw_done ?_
  refine gn_sq ?_
  refine HW_block rfl ?_
  refine HW_loopK (ι := Nat × Option Addr × Nat × Nat × Blk) rfl (ks := [0, 2]) (.cons rfl (.cons rfl .nil)) (fun x => [(4, .int .u64 ((x.1 + 2 : Nat) : Int)), (3, .slice x.2.1 (Pl.pr x.1).length x.2.2.1)]) (fun x w => Mem w0 w No [(x.2.2.2.1, x.2.2.2.2)] ∧ Acc 35 1 x.2.1 (Pl.pr x.1).length x.2.2.1 ((Pl.pr x.1).flatMap encU) x.2.2.2.1 x.2.2.2.2 ∧ x.1 ≤ 310 ∧ (Pl.pr x.1).length ≤ n) (fun x => 310 - x.1) (0, none, 0, 0, .gap) (⟨hm, ha_s, by decide, Nat.zero_le _⟩) ⟨rfl, rfl, trivial⟩ (fun x w hM => ?_)
  obtain ⟨hm, ha_s, hk, hin⟩ := hM
  refine HW_seq rfl ?_
  refine HW_seq rfl ?_
  refine HW_text (.pure 0 (.pure 1 (.pure 2 (.pure 3 .done)))) (by kernel_rfl) ?_
  refine rw_p rfl rfl (y_move rfl) ?_
  refine rw_p rfl rfl (y_len rfl rfl sl134) ?_
  refine rw_p rfl rfl (y_move rfl) ?_
  refine rw_p rfl rfl (y_lt rfl rfl) ?_
  refine rw_done ?_
  refine gn_sq ?_
  refine HW_cond rfl rfl (fun hc0 => ?_) (fun hc0 => ?_)
  ·
    obtain ⟨i, p_s, cap_s, g_s, b_s⟩ := x
    simp only at hm ha_s hk hin hc0 ⊢
    simp only [decide_eq_true_eq] at hc0
    have hil := Pl.pr_lt hn (i := i) (by omega)
    have hpos := Pl.pr_pos i
    have hin2 : (Pl.pr i).length + 1 ≤ n := by omega
    refine HW_skip rfl ?_
    refine gn_sq ?_
    refine HW_seq rfl ?_
    refine HW_block rfl ?_
    refine HW_seq rfl ?_
    refine HW_text (.pure 0 .done) (by kernel_rfl) ?_
    refine rw_p rfl rfl (y_assign rfl) ?_
    refine rw_done ?_
    refine gn_sq ?_
    refine HW_seq rfl ?_
    refine HW_seq rfl ?_
    refine HW_text (.pure 0 .done) (by kernel_rfl) ?_
    refine rw_p rfl rfl (y_assign rfl) ?_
    refine rw_done ?_
    refine gn_sq ?_
    refine HW_block rfl ?_
    refine HW_loopK (ι := Nat) rfl (ks := [0, 2, 3, 4]) (.cons rfl (.cons rfl (.cons rfl (.cons rfl .nil)))) (fun k => [(6, .int .i64 k), (5, .bool (((Pl.pr i).take k).all (fun q => !Nat.beq ((i + 2) % q) 0)))]) (fun k w => Mem w0 w No [(g_s, b_s)] ∧ k ≤ (Pl.pr i).length) (fun k => (Pl.pr i).length - k) 0 (⟨hm, Nat.zero_le _⟩) ⟨rfl, rfl, trivial⟩ (fun k w hM => ?_)
    obtain ⟨hm, hk1⟩ := hM
    refine HW_seq rfl ?_
    refine HW_seq rfl ?_
    refine HW_text (.pure 0 (.pure 1 (.pure 2 (.pure 3 .done)))) (by kernel_rfl) ?_
    refine rw_p rfl rfl (y_move rfl) ?_
    refine rw_p rfl rfl (y_move rfl) ?_
    refine rw_p rfl rfl (y_len rfl rfl sl134) ?_
    refine rw_p rfl rfl (y_lt rfl rfl) ?_
    refine rw_done ?_
    refine gn_sq ?_
    refine HW_cond rfl rfl (fun hc1 => ?_) (fun hc1 => ?_)
    ·
      simp only [decide_eq_true_eq] at hc1
      obtain ⟨q, hi⟩ : ∃ y_, (Pl.pr i)[k]? = some y_ := ⟨_, List.getElem?_eq_getElem (by omega)⟩
      have hq2 := hpos q (List.mem_of_getElem? hi)
      obtain ⟨b2, o2, hp2⟩ := (ha_s.rd hm 0 rfl).atI encU_len (by decide) hi
      have hta : ((Pl.pr i).take (k + 1)).all (fun q => !Nat.beq ((i + 2) % q) 0) = (((Pl.pr i).take k).all (fun q => !Nat.beq ((i + 2) % q) 0) && !Nat.beq ((i + 2) % q) 0) := by rw [Pl.take_snoc hi, List.all_append]; simp
      refine HW_skip rfl ?_
      refine gn_sq ?_
      refine HW_seq rfl ?_
      refine HW_block rfl ?_
      refine HW_seq rfl ?_
      refine HW_text (.pure 0 (.pure 1 (.pure 2 (.pure 3 (.pure 4 (.pure 5 (.pure 6 .done))))))) (by kernel_rfl) ?_
      refine rw_p rfl rfl (y_move rfl) ?_
      refine rw_p rfl rfl (y_move rfl) ?_
      refine rw_p rfl rfl (y_move rfl) ?_
      refine rw_p rfl rfl (y_index rfl rfl sl134 (ha_s.ptr (by omega)) (by omega) (by omega)) ?_
      refine rw_p rfl rfl (y_el1 rfl sc35 ((ha_s.ptr (by omega)) ▸ ha_s.rd hm 0 rfl).nt encU_len hi rfl) ?_
      refine rw_p rfl rfl (y_rem rfl rfl (by omega) (remK (i + 2) q)) ?_
      refine rw_p rfl rfl (y_eq rfl rfl) ?_
      refine rw_done ?_
      refine gn_sq ?_
      refine HW_cond rfl rfl (fun hc2 => ?_) (fun hc2 => ?_)
      ·
        simp only [decide_eq_true_eq] at hc2
        replace hc2 : (i + 2) % q = 0 := by omega
        have hbq : Nat.beq ((i + 2) % q) 0 = true := by rw [hc2]; rfl
        refine HW_text (.pure 0 .done) (by kernel_rfl) ?_
        refine rw_p rfl rfl (y_assign rfl) ?_
        refine rw_done ?_
        refine gn_bl ?_
        refine gn_sq ?_
        refine HW_text (.pure 0 (.pure 1 (.pure 2 .done))) (by kernel_rfl) ?_
        refine rw_p rfl rfl (y_move rfl) ?_
        refine rw_p rfl rfl (y_add rfl rfl (i64w (by omega) (by omega))) ?_
        refine rw_p rfl rfl (y_assign rfl) ?_
        refine rw_done ?_
        exact next (k + 1) (by omega) ⟨hm, by omega⟩ ⟨nx k, by rw [hta]; exact congrArg (fun z => some (Value.bool z)) (by simp [hbq]), rfl, rfl, rfl, rfl, trivial⟩
      ·
        simp only [decide_eq_false_iff_not] at hc2
        replace hc2 : ¬ (i + 2) % q = 0 := by omega
        have hbq : Nat.beq ((i + 2) % q) 0 = false := by rw [Bool.eq_false_iff]; exact fun h => hc2 (Nat.eq_of_beq_eq_true h)
        refine HW_skip rfl ?_
        refine gn_bl ?_
        refine gn_sq ?_
        refine HW_text (.pure 0 (.pure 1 (.pure 2 .done))) (by kernel_rfl) ?_
        refine rw_p rfl rfl (y_move rfl) ?_
        refine rw_p rfl rfl (y_add rfl rfl (i64w (by omega) (by omega))) ?_
        refine rw_p rfl rfl (y_assign rfl) ?_
        refine rw_done ?_
        exact next (k + 1) (by omega) ⟨hm, by omega⟩ ⟨nx k, by rw [hta]; exact congrArg (fun z => some (Value.bool z)) (by simp [hbq]), rfl, rfl, rfl, rfl, trivial⟩
    ·
      simp only [decide_eq_false_iff_not] at hc1
      obtain rfl : k = (Pl.pr i).length := by omega
      rw [List.take_length]
      refine HW_exit rfl ?_
      refine gx_sq (gx_lp ?_)
      refine gx_here ?_
      refine gn_sq ?_
      refine HW_seq rfl ?_
      refine HW_text (.pure 0 .done) (by kernel_rfl) ?_
      refine rw_p rfl rfl (y_move rfl) ?_
      refine rw_done ?_
      refine gn_sq ?_
      refine HW_cond rfl rfl (fun hc3 => ?_) (fun hc3 => ?_)
      ·
        have hpn : Pl.pr (i + 1) = Pl.pr i ++ [i + 2] := by simp only [Pl.pr]; rw [hc3]; rfl
        refine HW_text (.pure 0 (.pure 1 (.act 2 (.act 3 (.pure 4 .done))))) (by kernel_rfl) ?_
        refine rw_p rfl rfl (y_move rfl) ?_
        refine rw_p rfl rfl (y_move rfl) ?_
        refine a_buildSlice (l := [_]) rfl rfl sl134 z35 rfl rfl rfl rfl rfl rfl rfl hm trivial fun m1 w hg_m1 hm hh => ?_
        refine a_append rfl rfl rfl rfl rfl rfl sl134 sl134 z35 rfl rfl (Rd.row0 (hm.get (k := 0) rfl)) rfl ha_s hm 1 rfl (by omega) (by omega) fun p_s cap_s g_s b_s w ha_s hm => ?_
        replace ha_s := ha_s.to (show _ = (Pl.pr i ++ [i + 2]).flatMap encU by rw [List.flatMap_append]; rfl)
        have hne : (Pl.pr i).length + 1 = (Pl.pr i ++ [i + 2]).length := by rw [List.length_append]; rfl
        refine rw_p rfl rfl (y_assign rfl) ?_
        refine rw_done ?_
        refine gn_bl ?_
        refine gn_sq ?_
        refine HW_text (.pure 0 (.pure 1 (.pure 2 .done))) (by kernel_rfl) ?_
        refine rw_p rfl rfl (y_move rfl) ?_
        refine rw_p rfl rfl (y_add rfl rfl (u_add (a := i + 2) (b := 1) (by omega))) ?_
        refine rw_p rfl rfl (y_assign rfl) ?_
        refine rw_done ?_
        first | exact next (i + 1, p_s, cap_s, g_s, b_s) (by simp only; omega) ⟨(hm.pick [1] rfl), by simp only [hpn]; rw [← hne]; exact ha_s, by simp only; omega, by simp only [hpn]; rw [List.length_append]; exact hin2⟩ ⟨rfl, by show some (Value.slice p_s ((Pl.pr i).length + 1) cap_s) = some (.slice p_s (Pl.pr (i + 1)).length cap_s); rw [hpn, ← hne], rfl, rfl, trivial⟩ | exact next (i + 1, p_s, cap_s, g_s, b_s) (by simp only; omega) ⟨hm, by simp only [hpn]; exact ha_s, by simp only; omega, by simp only [hpn]; exact hin⟩ ⟨rfl, by show some (Value.slice p_s (Pl.pr i).length cap_s) = some (.slice p_s (Pl.pr (i + 1)).length cap_s); rw [hpn], rfl, rfl, trivial⟩
      ·
        have hpn : Pl.pr (i + 1) = Pl.pr i := by simp only [Pl.pr]; rw [hc3]; rfl
        refine HW_skip rfl ?_
        refine gn_bl ?_
        refine gn_sq ?_
        refine HW_text (.pure 0 (.pure 1 (.pure 2 .done))) (by kernel_rfl) ?_
        refine rw_p rfl rfl (y_move rfl) ?_
        refine rw_p rfl rfl (y_add rfl rfl (u_add (a := i + 2) (b := 1) (by omega))) ?_
        refine rw_p rfl rfl (y_assign rfl) ?_
        refine rw_done ?_
        first | exact next (i + 1, p_s, cap_s, g_s, b_s) (by simp only; omega) ⟨(hm.pick [0] rfl), by simp only [hpn]; rw [← hne]; exact ha_s, by simp only; omega, by simp only [hpn]; rw [List.length_append]; exact hin2⟩ ⟨rfl, by show some (Value.slice p_s ((Pl.pr i).length + 1) cap_s) = some (.slice p_s (Pl.pr (i + 1)).length cap_s); rw [hpn, ← hne], rfl, rfl, trivial⟩ | exact next (i + 1, p_s, cap_s, g_s, b_s) (by simp only; omega) ⟨hm, by simp only [hpn]; exact ha_s, by simp only; omega, by simp only [hpn]; exact hin⟩ ⟨rfl, by show some (Value.slice p_s (Pl.pr i).length cap_s) = some (.slice p_s (Pl.pr (i + 1)).length cap_s); rw [hpn], rfl, rfl, trivial⟩
  ·
    obtain ⟨i, p_s, cap_s, g_s, b_s⟩ := x
    simp only at hm ha_s hk hin hc0 ⊢
    simp only [decide_eq_false_iff_not] at hc0
    have hpn := Pl.pr_take hn hk (by omega : (Pl.pr i).length = n)
    have hpl : (Pl.prs.take n).length = n := by rw [List.length_take, Pl.prs_len]; omega
    rw [hpn, hpl] at ha_s
    rw [hpn, hpl]
    refine HW_exit rfl ?_
    refine gx_sq (gx_lp ?_)
    refine gx_here ?_
    refine gn_sq ?_
    refine HW_seq rfl ?_
    refine HW_text (.pure 0 (.pure 1 .done)) (by kernel_rfl) ?_
    refine rw_p rfl rfl (y_move rfl) ?_
    refine rw_p rfl rfl (y_assign rfl) ?_
    refine rw_done ?_
    refine gn_sq ?_
    refine HW_ret rfl ?_
    refine toR (fin hret rfl (.tmp rfl .nil) .one ?_)
    exact ⟨p_s, cap_s, g_s, b_s, rfl, ha_s, (hm.pick [0] rfl)⟩

set_option maxHeartbeats 800000 in
theorem r2_consts (n : Nat) (cubes : Bool) (w0 : World) (hn : n ≤ 64) (hg : ∀ p ∈ Pl.prs.take n, Pl.rootGood p cubes = true) (h0 : ∀ p ∈ Pl.prs.take n, Pl.rootOk p cubes (bif cubes then 34359738368 else 68719476736) = false) : C Try.prog 68 [.int .i64 (n : Int), .bool cubes] w0 fun v w' => ∃ p c g b, v = .slice p n c ∧ Acc 115 1 p n c (((Pl.prs.take n).map (Pl.rootW · cubes)).flatMap encW) g b ∧ Mem w0 w' No [(g, b)] := by
  have hpl : (Pl.prs.take n).length = n := by rw [List.length_take, Pl.prs_len]; omega
  have hpb : ∀ p ∈ Pl.prs.take n, p < 4294967296 := fun p hp => (show ∀ p ∈ Pl.prs, p < 4294967296 by decide) p (List.mem_of_mem_take hp)
  refine C_of Try.func68 rfl rfl rfl fun κ hret hnorm => ?_
  have hm := Mem.start w0
  refine HW_seq rfl ?_
  refine HW_text (.pure 0 .done) (by kernel_rfl) ?_
  refine rw_p rfl rfl (y_assign rfl) ?_
  refine rw_done ?_
  refine gn_sq ?_
  refine HW_seq rfl ?_
  refine HW_text (.pure 0 .done) (by kernel_rfl) ?_
  refine rw_p rfl rfl (y_assign rfl) ?_
  replace hm := hm.gapIn
  have ha_s := Acc.nil 115 1 none 0
  refine rw_done ?_
  refine gn_sq ?_
  refine HW_seq rfl ?_
  refine HW_text (.pure 0 (.act 1 (.pure 2 .done))) (by kernel_rfl) ?_
  refine rw_p rfl rfl (y_move rfl) ?_
  refine a_call rfl rfl rfl go73 (r2_primes n _ hn) fun v w hR => ?_
  obtain ⟨p_q, cap_q, g_q, b_q, rfl, ha_q, hmc⟩ := hR
  refine ⟨trivial, ?_⟩
  replace hm := hm.callN hmc
  refine rw_p rfl rfl (y_assign rfl) ?_
  refine rw_done ?_
  refine gn_sq ?_
  refine HW_seq rfl ?_
  refine HW_seq rfl ?_
  refine HW_text (.pure 0 .done) (by kernel_rfl) ?_
  refine rw_p rfl rfl (y_assign rfl) ?_
  refine rw_done ?_
  refine gn_sq ?_
  refine HW_block rfl ?_
  refine HW_loopK (ι := Nat × Option Addr × Nat × Nat × Blk) rfl (ks := [1, 4, 6]) (.cons rfl (.cons rfl (.cons rfl .nil))) (fun x => [(7, .int .i64 x.1), (5, .slice x.2.1 x.1 x.2.2.1)]) (fun x w => Mem w0 w No [(x.2.2.2.1, x.2.2.2.2), (g_q, b_q)] ∧ Acc 115 1 x.2.1 x.1 x.2.2.1 (((((Pl.prs.take x.1).map (Pl.rootW · cubes))).flatMap encW)) x.2.2.2.1 x.2.2.2.2 ∧ x.1 ≤ n) (fun x => n - x.1) (0, none, 0, 0, .gap) (⟨(hm.pick [1, 0] rfl), ha_s, Nat.zero_le _⟩) ⟨rfl, rfl, trivial⟩ (fun x w hM => ?_)
  obtain ⟨hm, ha_s, hk⟩ := hM
  refine HW_seq rfl ?_
  refine HW_seq rfl ?_
  refine HW_text (.pure 0 (.pure 1 (.pure 2 (.pure 3 .done)))) (by kernel_rfl) ?_
  refine rw_p rfl rfl (y_move rfl) ?_
  refine rw_p rfl rfl (y_move rfl) ?_
  refine rw_p rfl rfl (y_len rfl rfl sl134) ?_
  refine rw_p rfl rfl (y_lt rfl rfl) ?_
  refine rw_done ?_
  refine gn_sq ?_
  refine HW_cond rfl rfl (fun hc0 => ?_) (fun hc0 => ?_)
  ·
    obtain ⟨i, p_s, cap_s, g_s, b_s⟩ := x
    simp only at hm ha_s hk hc0 ⊢
    simp only [decide_eq_true_eq] at hc0
    obtain ⟨q, hi⟩ : ∃ y_, (Pl.prs.take n)[i]? = some y_ := ⟨_, List.getElem?_eq_getElem (by omega)⟩
    have hqm := List.mem_of_getElem? hi
    have hi2 : Pl.prs[i]? = some q := by rw [List.getElem?_take, if_pos (by omega)] at hi; exact hi
    refine HW_skip rfl ?_
    refine gn_sq ?_
    refine HW_seq rfl ?_
    refine HW_block rfl ?_
    refine HW_text (.pure 0 (.pure 1 (.pure 2 (.pure 3 (.pure 4 (.pure 5 (.act 6 (.act 7 (.act 8 (.pure 9 .done)))))))))) (by kernel_rfl) ?_
    refine rw_p rfl rfl (y_move rfl) ?_
    refine rw_p rfl rfl (y_move rfl) ?_
    refine rw_p rfl rfl (y_move rfl) ?_
    refine rw_p rfl rfl (y_index rfl rfl sl134 (ha_q.ptr (by omega)) (by omega) (by omega)) ?_
    refine rw_p rfl rfl (y_el1 rfl sc35 ((ha_q.ptr (by omega)) ▸ ha_q.rd hm 1 rfl).nt encU_len hi rfl) ?_
    refine rw_p rfl rfl (y_move rfl) ?_
    refine a_call rfl rfl rfl go74 (r2_root q cubes _ (hpb q hqm) (hg q hqm) (h0 q hqm)) fun v w hR => ?_
    obtain ⟨rfl, hE⟩ := hR
    refine ⟨trivial, ?_⟩
    replace hm := hm.ext hE
    refine a_buildSlice (l := [_]) rfl rfl sl105 z115 rfl rfl rfl rfl rfl rfl rfl hm trivial fun m1 w hg_m1 hm hh => ?_
    refine a_append rfl rfl rfl rfl rfl rfl sl105 sl105 z115 rfl rfl (Rd.row0 (hm.get (k := 0) rfl)) rfl ha_s hm 1 rfl (by omega) (by omega) fun p_s cap_s g_s b_s w ha_s hm => ?_
    replace ha_s := ha_s.to (show _ = (((Pl.prs.take (i + 1)).map (Pl.rootW · cubes))).flatMap encW by rw [Pl.take_snoc hi2, List.map_append, List.flatMap_append]; rfl)
    refine rw_p rfl rfl (y_assign rfl) ?_
    refine rw_done ?_
    refine gn_bl ?_
    refine gn_sq ?_
    refine HW_text (.pure 0 (.pure 1 (.pure 2 .done))) (by kernel_rfl) ?_
    refine rw_p rfl rfl (y_move rfl) ?_
    refine rw_p rfl rfl (y_add rfl rfl (i64w (by omega) (by omega))) ?_
    refine rw_p rfl rfl (y_assign rfl) ?_
    refine rw_done ?_
    exact next (i + 1, p_s, cap_s, g_s, b_s) (by simp only; omega) ⟨(hm.pick [1, 2] rfl), ha_s, by simp only; omega⟩ ⟨nx i, rfl, rfl, rfl, rfl, trivial⟩
  ·
    obtain ⟨i, p_s, cap_s, g_s, b_s⟩ := x
    simp only at hm ha_s hk hc0 ⊢
    simp only [decide_eq_false_iff_not] at hc0
    obtain rfl : i = n := by omega
    refine HW_exit rfl ?_
    refine gx_sq (gx_lp ?_)
    refine gx_here ?_
    refine gn_sq ?_
    refine HW_seq rfl ?_
    refine HW_text (.pure 0 (.pure 1 .done)) (by kernel_rfl) ?_
    refine rw_p rfl rfl (y_move rfl) ?_
    refine rw_p rfl rfl (y_assign rfl) ?_
    refine rw_done ?_
    refine gn_sq ?_
    refine HW_ret rfl ?_
    refine toR (fin hret rfl (.tmp rfl .nil) .one ?_)
    exact ⟨p_s, cap_s, g_s, b_s, rfl, ha_s, (hm.pick [0] rfl)⟩

theorem r2_table (w0 : World) : C Try.prog 51 [] w0 fun v w' => ∃ p c g b q d h e, v = .agg ⟨[.slice p 8 c, .slice q 64 d]⟩ ∧ Acc 115 1 p 8 c (Pl.shI.l.flatMap encW) g b ∧ Acc 115 1 q 64 d (Pl.shK.flatMap encW) h e ∧ Mem w0 w' No [(g, b), (h, e)] := by
  refine C_of Try.func51 rfl rfl rfl fun κ hret hnorm => ?_
  have hm := Mem.start w0
  refine HW_seq rfl ?_
  refine HW_text (.act 0 .done) (by kernel_rfl) ?_
  refine a_alloc rfl rfl z107 hm trivial fun m1 w hg_m1 hm hh => ?_
  refine rw_done ?_
  refine gn_sq ?_
  refine HW_seq rfl ?_
  refine HW_text (.act 0 (.act 1 (.pure 2 (.act 3 .done)))) (by kernel_rfl) ?_
  refine a_call rfl rfl rfl go68 (r2_consts 8 false _ (by decide) (by have := Pl.good_s; rw [List.all_eq_true] at this; exact this) (by decide)) fun v w hR => ?_
  obtain ⟨p_s, cap_s, g_s, b_s, rfl, ha_s, hmc⟩ := hR
  refine ⟨trivial, ?_⟩
  replace hm := hm.callN hmc
  refine a_call rfl rfl rfl go68 (r2_consts 64 true _ (by decide) (by have := Pl.good_c; rw [List.all_eq_true] at this; exact this) (by decide)) fun v w hR => ?_
  obtain ⟨p_q, cap_q, g_q, b_q, rfl, ha_q, hmc⟩ := hR
  refine ⟨trivial, ?_⟩
  replace hm := hm.callN hmc
  refine rw_p rfl rfl (y_build (cs := [_, _]) z107 ft107 rfl rfl rfl rfl rfl) ?_
  refine a_store rfl rfl rfl rfl sz107 rfl hm 2 rfl rfl fun w hm => ?_
  refine rw_done ?_
  refine gn_sq ?_
  refine HW_ret rfl ?_
  refine toR (fin hret rfl (.cell rfl (run_loadVar_a (vs := [_, _]) ag107 (hm.get (k := 2) rfl) rfl) .nil) .one ?_)
  exact ⟨p_s, cap_s, g_s, b_s, p_q, cap_q, g_q, b_q, rfl, by rw [← Pl.roots_s]; exact ha_s, by rw [← Pl.roots_c]; exact ha_q, (hm.pick [1, 0] rfl)⟩

theorem r2_rot (x : UInt32) (j : Nat) (w0 : World) (h1 : 1 ≤ j) (h2 : j < 32) : C Try.prog 72 [.int .u32 ((x).toNat : Int), .int .i64 (j : Int)] w0 fun v w' => v = .int .u32 ((Pl.rotr x (UInt32.ofNat j)).toNat : Int) ∧ Ext No w0 w' := by
  refine C_of Try.func72 rfl rfl rfl fun κ hret hnorm => ?_
  have hm := Mem.start w0
  refine HW_seq rfl ?_
  refine HW_text (.pure 0 .done) (by kernel_rfl) ?_
  refine rw_p rfl rfl (y_assign (cW 0 rfl)) ?_
  refine rw_done ?_
  refine gn_sq ?_
  refine HW_seq rfl ?_
  refine HW_draw (.pure 0 (.pure 1 (.pure 2 (.pure 3 (.pure 4 (.pure 5 (.pure 6 (.pure 7 (.pure 8 .done))))))))) No mix (by kernel_rfl) hm fun w hw hm0 hh => ?_
  have hm := hm0
  refine rw_p rfl rfl (y_move rfl) ?_
  refine rw_p rfl rfl (y_move rfl) ?_
  refine rw_p rfl rfl (y_shr rfl rfl (by omega) (w_shr (UInt32.ofNat j) (by rw [oN h2]) (by rw [oN h2]; omega))) ?_
  refine rw_p rfl rfl (y_move rfl) ?_
  refine rw_p rfl rfl (y_move rfl) ?_
  refine rw_p rfl rfl (y_sub rfl rfl (subK (a := 32) _ (by omega) (by decide))) ?_
  refine rw_p rfl rfl (y_shl rfl rfl (by omega) (w_shl (UInt32.ofNat (32 - j)) (by rw [oN (by omega)]) (by rw [oN (by omega)]; omega))) ?_
  refine rw_p rfl rfl (y_or_ rfl rfl w_or) ?_
  refine rw_p rfl rfl (y_assign rfl) ?_
  refine rw_done ?_
  refine gn_sq ?_
  refine HW_ret rfl ?_
  refine toR (fin hret rfl (.tmp rfl .nil) .one ?_)
  exact ⟨by rw [← rot_eq x h1 h2, UInt32.or_comm], hm.to⟩

set_option maxHeartbeats 800000 in
theorem r2_pad (p : Option Addr) (cap : Nat) (b : List UInt8) (w0 : World) (hx : Rd w0 p (b.flatMap encB)) (hl : b.length ≤ 1000000000000) : C Try.prog 65 [.slice p b.length cap] w0 fun v w' => ∃ q c g d, v = .slice q (b ++ Pl.shPad b.length).length c ∧ Acc 5 1 q (b ++ Pl.shPad b.length).length c ((b ++ Pl.shPad b.length).flatMap encB) g d ∧ Mem w0 w' No [(g, d)] := by
  refine C_of Try.func65 rfl rfl rfl fun κ hret hnorm => ?_
  have hm := Mem.start w0
  refine HW_seq rfl ?_
  refine HW_text (.pure 0 .done) (by kernel_rfl) ?_
  refine rw_p rfl rfl (y_assign rfl) ?_
  refine rw_done ?_
  refine gn_sq ?_
  refine HW_seq rfl ?_
  refine HW_text (.act 0 (.pure 1 (.act 2 (.pure 3 .done)))) (by kernel_rfl) ?_
  refine a_buildSlice (l := []) rfl rfl sl27 z5 rfl rfl rfl rfl rfl rfl rfl hm trivial fun m1 w hg_m1 hm hh => ?_
  refine rw_p rfl rfl (y_move rfl) ?_
  refine a_append rfl rfl rfl rfl rfl rfl sl27 sl27 z5 rfl (oneB b) (hx.ext0 hm.to) (lenB b) (Acc.row rfl) hm 0 rfl (by omega) (by omega) fun p_s cap_s g_s b_s w ha_s hm => ?_
  replace ha_s := ha_s.to (show _ = b.flatMap encB from List.nil_append _)
  refine rw_p rfl rfl (y_assign rfl) ?_
  refine rw_done ?_
  refine gn_sq ?_
  refine HW_seq rfl ?_
  refine HW_text (.pure 0 (.act 1 (.act 2 (.pure 3 .done)))) (by kernel_rfl) ?_
  refine rw_p rfl rfl (y_move rfl) ?_
  refine a_buildSlice (l := [_]) rfl rfl sl27 z5 rfl rfl rfl rfl rfl rfl rfl hm trivial fun m2 w hg_m2 hm hh => ?_
  refine a_append rfl rfl rfl rfl rfl rfl sl27 sl27 z5 rfl rfl (Rd.row0 (hm.get (k := 0) rfl)) rfl ha_s hm 1 rfl (by omega) (by omega) fun p_s cap_s g_s b_s w ha_s hm => ?_
  have hne : 0 + b.length + 1 = (b ++ [128] ++ List.replicate 0 0).length := by simp only [List.length_append, List.length_replicate, List.length_cons, List.length_nil]; omega
  replace ha_s := ha_s.to (show _ = (b ++ [128] ++ List.replicate 0 0).flatMap encB by rw [List.replicate_zero, List.append_nil, List.flatMap_append]; rfl)
  refine rw_p rfl rfl (y_assign rfl) ?_
  refine rw_done ?_
  refine gn_sq ?_
  refine HW_seq rfl ?_
  refine HW_block rfl ?_
  refine HW_loopK (ι := Nat × Option Addr × Nat × Nat × Blk) rfl (ks := [0, 2]) (.cons rfl (.cons rfl .nil)) (fun x => [(3, .slice x.2.1 (b ++ [128] ++ List.replicate x.1 0).length x.2.2.1)]) (fun x w => Mem w0 w No [(x.2.2.2.1, x.2.2.2.2)] ∧ Acc 5 1 x.2.1 (b ++ [128] ++ List.replicate x.1 0).length x.2.2.1 ((b ++ [128] ++ List.replicate x.1 0).flatMap encB) x.2.2.2.1 x.2.2.2.2 ∧ x.1 ≤ Pl.padZ b.length) (fun x => Pl.padZ b.length - x.1) (0, p_s, cap_s, g_s, b_s) (⟨(hm.pick [1] rfl), by simp only; rw [← hne]; exact ha_s, Nat.zero_le _⟩) ⟨congrArg (fun z => some (Value.slice p_s z cap_s)) hne, trivial⟩ (fun x w hM => ?_)
  obtain ⟨hm, ha_s, hk⟩ := hM
  refine HW_seq rfl ?_
  refine HW_seq rfl ?_
  refine HW_text (.pure 0 (.pure 1 (.pure 2 (.pure 3 .done)))) (by kernel_rfl) ?_
  refine rw_p rfl rfl (y_move rfl) ?_
  refine rw_p rfl rfl (y_len rfl rfl sl27) ?_
  refine rw_p rfl rfl (y_rem rfl rfl (by decide) (remK _ 64)) ?_
  refine rw_p rfl rfl (y_ne rfl rfl) ?_
  refine rw_done ?_
  refine gn_sq ?_
  refine HW_cond rfl rfl (fun hc0 => ?_) (fun hc0 => ?_)
  ·
    obtain ⟨j, p_s, cap_s, g_s, b_s⟩ := x
    simp only at hm ha_s hk hc0 ⊢
    simp only [decide_eq_true_eq] at hc0
    have hlj : (b ++ [128] ++ List.replicate j 0).length = b.length + 1 + j := by simp only [List.length_append, List.length_replicate, List.length_cons, List.length_nil]
    rw [hlj] at hc0
    have hjp : j < Pl.padZ b.length := by unfold Pl.padZ at hk ⊢; omega
    have hpz : Pl.padZ b.length ≤ 64 := by unfold Pl.padZ; omega
    refine HW_skip rfl ?_
    refine gn_sq ?_
    refine HW_block rfl ?_
    refine HW_text (.pure 0 (.act 1 (.act 2 (.pure 3 .done)))) (by kernel_rfl) ?_
    refine rw_p rfl rfl (y_move rfl) ?_
    refine a_buildSlice (l := [_]) rfl rfl sl27 z5 rfl rfl rfl rfl rfl rfl rfl hm trivial fun m3 w hg_m3 hm hh => ?_
    refine a_append rfl rfl rfl rfl rfl rfl sl27 sl27 z5 rfl rfl (Rd.row0 (hm.get (k := 0) rfl)) rfl ha_s hm 1 rfl (by omega) (by omega) fun p_s cap_s g_s b_s w ha_s hm => ?_
    have hne : (b ++ [128] ++ List.replicate j 0).length + 1 = (b ++ [128] ++ List.replicate (j + 1) 0).length := by simp only [List.length_append, List.length_replicate, List.length_cons, List.length_nil]; omega
    replace ha_s := ha_s.to (show _ = (b ++ [128] ++ List.replicate (j + 1) 0).flatMap encB by rw [List.replicate_succ', ← List.append_assoc, List.flatMap_append (xs := (b ++ [128] ++ List.replicate j 0))]; rfl)
    refine rw_p rfl rfl (y_assign rfl) ?_
    refine rw_done ?_
    refine gn_bl ?_
    exact next (j + 1, p_s, cap_s, g_s, b_s) (by simp only; omega) ⟨(hm.pick [1] rfl), by simp only; rw [← hne]; exact ha_s, by simp only; omega⟩ ⟨congrArg (fun z => some (Value.slice p_s z cap_s)) hne, rfl, rfl, trivial⟩
  ·
    obtain ⟨j, p_s, cap_s, g_s, b_s⟩ := x
    simp only at hm ha_s hk hc0 ⊢
    simp only [decide_eq_false_iff_not, Decidable.not_not] at hc0
    have hlj : (b ++ [128] ++ List.replicate j 0).length = b.length + 1 + j := by simp only [List.length_append, List.length_replicate, List.length_cons, List.length_nil]
    rw [hlj] at hc0
    obtain rfl : j = Pl.padZ b.length := by unfold Pl.padZ at hk ⊢; omega
    have hpz : Pl.padZ b.length ≤ 64 := by unfold Pl.padZ; omega
    have hne2 : (b ++ [128] ++ List.replicate (Pl.padZ b.length) 0 ++ (Pl.beN (b.length * 8) 8).take 0) = (b ++ [128] ++ List.replicate (Pl.padZ b.length) 0) := by rw [List.take_zero, List.append_nil]
    refine HW_exit rfl ?_
    refine gx_sq (gx_lp ?_)
    refine gx_here ?_
    refine gn_sq ?_
    refine HW_seq rfl ?_
    refine HW_text (.pure 0 (.pure 1 (.pure 2 (.pure 3 (.pure 4 .done))))) (by kernel_rfl) ?_
    refine rw_p rfl rfl (y_move rfl) ?_
    refine rw_p rfl rfl (y_len rfl rfl sl27) ?_
    refine rw_p rfl rfl (y_conv rfl is3 it35 (u64N.trans (by rw [Nat.mod_eq_of_lt (by omega)]))) ?_
    refine rw_p rfl rfl (y_mul rfl rfl (u_mul (b := 8) (by omega))) ?_
    refine rw_p rfl rfl (y_assign rfl) ?_
    refine rw_done ?_
    refine gn_sq ?_
    refine HW_seq rfl ?_
    refine HW_seq rfl ?_
    refine HW_text (.pure 0 .done) (by kernel_rfl) ?_
    refine rw_p rfl rfl (y_assign rfl) ?_
    refine rw_done ?_
    refine gn_sq ?_
    refine HW_block rfl ?_
    refine HW_loopK (ι := Nat × Option Addr × Nat × Nat × Blk) rfl (ks := [2, 4]) (.cons rfl (.cons rfl .nil)) (fun x => [(5, .int .i64 (7 - (x.1 : Int))), (3, .slice x.2.1 (b ++ [128] ++ List.replicate (Pl.padZ b.length) 0 ++ (Pl.beN (b.length * 8) 8).take x.1).length x.2.2.1)]) (fun x w => Mem w0 w No [(x.2.2.2.1, x.2.2.2.2)] ∧ Acc 5 1 x.2.1 (b ++ [128] ++ List.replicate (Pl.padZ b.length) 0 ++ (Pl.beN (b.length * 8) 8).take x.1).length x.2.2.1 ((b ++ [128] ++ List.replicate (Pl.padZ b.length) 0 ++ (Pl.beN (b.length * 8) 8).take x.1).flatMap encB) x.2.2.2.1 x.2.2.2.2 ∧ x.1 ≤ 8) (fun x => 8 - x.1) (0, p_s, cap_s, g_s, b_s) (⟨(hm.pick [0] rfl), by simp only; rw [hne2]; exact ha_s, Nat.zero_le _⟩) ⟨rfl, congrArg (fun z => some (Value.slice p_s z cap_s)) (congrArg List.length hne2.symm), trivial⟩ (fun x w hM => ?_)
    obtain ⟨hm, ha_s, hk⟩ := hM
    refine HW_seq rfl ?_
    refine HW_seq rfl ?_
    refine HW_text (.pure 0 (.pure 1 .done)) (by kernel_rfl) ?_
    refine rw_p rfl rfl (y_move rfl) ?_
    refine rw_p rfl rfl (y_ge rfl rfl) ?_
    refine rw_done ?_
    refine gn_sq ?_
    refine HW_cond rfl rfl (fun hc1 => ?_) (fun hc1 => ?_)
    ·
      obtain ⟨y, p_s, cap_s, g_s, b_s⟩ := x
      simp only at hm ha_s hk hc1 ⊢
      simp only [decide_eq_true_eq] at hc1
      have hel : (b ++ [128] ++ List.replicate (Pl.padZ b.length) 0 ++ (Pl.beN (b.length * 8) 8).take y).length ≤ 1000000000100 := by simp only [List.length_append, List.length_replicate, List.length_take, Pl.beN_len, List.length_cons, List.length_nil]; omega
      have hbn := Pl.beN_get (b.length * 8) 8 y (by omega)
      refine HW_skip rfl ?_
      refine gn_sq ?_
      refine HW_seq rfl ?_
      refine HW_block rfl ?_
      refine HW_text (.pure 0 (.pure 1 (.pure 2 (.pure 3 (.pure 4 (.pure 5 (.act 6 (.act 7 (.pure 8 .done))))))))) (by kernel_rfl) ?_
      refine rw_p rfl rfl (y_move rfl) ?_
      refine rw_p rfl rfl (y_move rfl) ?_
      refine rw_p rfl rfl (y_move rfl) ?_
      refine rw_p rfl rfl (y_mul rfl rfl (i64w (by omega) (by omega))) ?_
      refine rw_p rfl rfl (y_shr rfl rfl (by omega) rfl) ?_
      refine rw_p rfl rfl (y_conv rfl is35 it5 (be_shift (y := y) (by omega) rfl)) ?_
      refine a_buildSlice (l := [_]) rfl rfl sl27 z5 rfl rfl rfl rfl rfl rfl rfl hm trivial fun m3 w hg_m3 hm hh => ?_
      refine a_append rfl rfl rfl rfl rfl rfl sl27 sl27 z5 rfl rfl (Rd.row0 (hm.get (k := 0) rfl)) rfl ha_s hm 1 rfl (by omega) (by omega) fun p_s cap_s g_s b_s w ha_s hm => ?_
      replace ha_s := ha_s.to (show _ = (b ++ [128] ++ List.replicate (Pl.padZ b.length) 0 ++ (Pl.beN (b.length * 8) 8).take (y + 1)).flatMap encB by rw [Pl.take_snoc hbn, ← List.append_assoc, List.flatMap_append (xs := (b ++ [128] ++ List.replicate (Pl.padZ b.length) 0 ++ (Pl.beN (b.length * 8) 8).take y))]; rfl)
      have hne : (b ++ [128] ++ List.replicate (Pl.padZ b.length) 0 ++ (Pl.beN (b.length * 8) 8).take y).length + 1 = (b ++ [128] ++ List.replicate (Pl.padZ b.length) 0 ++ (Pl.beN (b.length * 8) 8).take (y + 1)).length := by rw [Pl.take_snoc hbn]; simp only [List.length_append, List.length_cons, List.length_nil]; omega
      refine rw_p rfl rfl (y_assign rfl) ?_
      refine rw_done ?_
      refine gn_bl ?_
      refine gn_sq ?_
      refine HW_text (.pure 0 (.pure 1 (.pure 2 .done))) (by kernel_rfl) ?_
      refine rw_p rfl rfl (y_move rfl) ?_
      refine rw_p rfl rfl (y_sub rfl rfl (i64w (by omega) (by omega))) ?_
      refine rw_p rfl rfl (y_assign rfl) ?_
      refine rw_done ?_
      exact next (y + 1, p_s, cap_s, g_s, b_s) (by simp only; omega) ⟨(hm.pick [1] rfl), by simp only; rw [← hne]; exact ha_s, by simp only; omega⟩ ⟨congrArg (fun z => some (Value.int .i64 z)) (show (7 : Int) - (y : Int) - 1 = 7 - ((y + 1 : Nat) : Int) by omega), congrArg (fun z => some (Value.slice p_s z cap_s)) hne, rfl, rfl, trivial⟩
    ·
      obtain ⟨y, p_s, cap_s, g_s, b_s⟩ := x
      simp only at hm ha_s hk hc1 ⊢
      simp only [decide_eq_false_iff_not] at hc1
      obtain rfl : y = 8 := by omega
      have hee : (b ++ [128] ++ List.replicate (Pl.padZ b.length) 0 ++ (Pl.beN (b.length * 8) 8).take 8) = b ++ Pl.shPad b.length := by unfold Pl.shPad; rw [List.take_of_length_le (by rw [Pl.beN_len]; exact Nat.le_refl _)]; simp only [List.append_assoc]
      rw [hee] at ha_s ⊢
      refine HW_exit rfl ?_
      refine gx_sq (gx_lp ?_)
      refine gx_here ?_
      refine gn_sq ?_
      refine HW_seq rfl ?_
      refine HW_text (.pure 0 (.pure 1 .done)) (by kernel_rfl) ?_
      refine rw_p rfl rfl (y_move rfl) ?_
      refine rw_p rfl rfl (y_assign rfl) ?_
      refine rw_done ?_
      refine gn_sq ?_
      refine HW_ret rfl ?_
      refine toR (fin hret rfl (.tmp rfl .nil) .one ?_)
      exact ⟨p_s, cap_s, g_s, b_s, rfl, ha_s, (hm.pick [0] rfl)⟩

set_option maxHeartbeats 1600000 in
theorem r2_sched (p : Option Addr) (cap : Nat) (bs : List UInt8) (w0 : World) (hx : Rd w0 p (bs.flatMap encB)) (hl : bs.length = 64) : C Try.prog 67 [.slice p 64 cap] w0 fun v w' => ∃ q c g d, v = .slice q 64 c ∧ Acc 115 1 q 64 c ((Pl.schB bs).flatMap encW) g d ∧ Mem w0 w' No [(g, d)] := by
  obtain ⟨x0_, hx0_⟩ : ∃ y_, bs[0]? = some y_ := ⟨_, List.getElem?_eq_getElem (by omega)⟩
  obtain ⟨b2, o2, hp4⟩ := hx.atI encB_len (by decide) hx0_
  refine C_of Try.func67 rfl rfl rfl fun κ hret hnorm => ?_
  have hm := Mem.start w0
  refine HW_seq rfl ?_
  refine HW_text (.pure 0 .done) (by kernel_rfl) ?_
  refine rw_p rfl rfl (y_assign rfl) ?_
  refine rw_done ?_
  refine gn_sq ?_
  refine HW_seq rfl ?_
  refine HW_text (.pure 0 .done) (by kernel_rfl) ?_
  refine rw_p rfl rfl (y_assign rfl) ?_
  replace hm := hm.gapIn
  have ha_s := Acc.nil 115 1 none 0
  refine rw_done ?_
  refine gn_sq ?_
  refine HW_seq rfl ?_
  refine HW_seq rfl ?_
  refine HW_text (.pure 0 .done) (by kernel_rfl) ?_
  refine rw_p rfl rfl (y_assign rfl) ?_
  refine rw_done ?_
  refine gn_sq ?_
  refine HW_block rfl ?_
  refine HW_loopK (ι := Nat × Option Addr × Nat × Nat × Blk) rfl (ks := [0, 2]) (.cons rfl (.cons rfl .nil)) (fun x => [(4, .int .i64 x.1), (3, .slice x.2.1 x.1 x.2.2.1)]) (fun x w => Mem w0 w No [(x.2.2.2.1, x.2.2.2.2)] ∧ Acc 115 1 x.2.1 x.1 x.2.2.1 ((Pl.wordsB bs x.1).flatMap encW) x.2.2.2.1 x.2.2.2.2 ∧ x.1 ≤ 16) (fun x => 16 - x.1) (0, none, 0, 0, .gap) (⟨hm, ha_s, Nat.zero_le _⟩) ⟨rfl, rfl, trivial⟩ (fun x w hM => ?_)
  obtain ⟨hm, ha_s, hk⟩ := hM
  refine HW_seq rfl ?_
  refine HW_seq rfl ?_
  refine HW_text (.pure 0 (.pure 1 .done)) (by kernel_rfl) ?_
  refine rw_p rfl rfl (y_move rfl) ?_
  refine rw_p rfl rfl (y_lt rfl rfl) ?_
  refine rw_done ?_
  refine gn_sq ?_
  refine HW_cond rfl rfl (fun hc0 => ?_) (fun hc0 => ?_)
  ·
    obtain ⟨x, p_s, cap_s, g_s, b_s⟩ := x
    simp only at hm ha_s hk hc0 ⊢
    simp only [decide_eq_true_eq] at hc0
    obtain ⟨c0, hi0⟩ : ∃ y_, bs[4 * x + 0]? = some y_ := ⟨_, List.getElem?_eq_getElem (by omega)⟩
    obtain ⟨c1, hi1⟩ : ∃ y_, bs[4 * x + 1]? = some y_ := ⟨_, List.getElem?_eq_getElem (by omega)⟩
    obtain ⟨c2, hi2⟩ : ∃ y_, bs[4 * x + 2]? = some y_ := ⟨_, List.getElem?_eq_getElem (by omega)⟩
    obtain ⟨c3, hi3⟩ : ∃ y_, bs[4 * x + 3]? = some y_ := ⟨_, List.getElem?_eq_getElem (by omega)⟩
    have hwb : Pl.wordB bs x = Pl.be4 c0 c1 c2 c3 := by unfold Pl.wordB; simp only [List.getD_eq_getElem?_getD, hi1, hi2, hi3, show bs[4 * x]? = some c0 from hi0, Option.getD_some]
    refine HW_skip rfl ?_
    refine gn_sq ?_
    refine HW_seq rfl ?_
    refine HW_block rfl ?_
    refine HW_draw (.pure 0 (.pure 1 (.pure 2 (.pure 3 (.pure 4 (.pure 5 (.pure 6 (.pure 7 (.pure 8 (.pure 9 (.pure 10 (.pure 11 (.pure 12 (.pure 13 (.pure 14 (.pure 15 (.pure 16 (.pure 17 (.pure 18 (.pure 19 (.pure 20 (.pure 21 (.pure 22 (.pure 23 (.pure 24 (.pure 25 (.pure 26 (.pure 27 (.pure 28 (.pure 29 (.pure 30 (.pure 31 (.pure 32 (.cut (.pure 33 (.act 34 (.act 35 (.pure 36 .done)))))))))))))))))))))))))))))))))))))) No mix (by kernel_rfl) hm fun w hw hm0 hh => ?_
    have hm := hm0
    refine rw_p rfl rfl (y_move rfl) ?_
    refine rw_p rfl rfl (y_move rfl) ?_
    refine rw_p rfl rfl (y_move rfl) ?_
    refine rw_p rfl rfl (y_mul rfl rfl (mulK 4 (by omega))) ?_
    refine rw_p rfl rfl (y_index rfl rfl sl27 hp4 (by omega) (by omega)) ?_
    refine rw_p rfl rfl (y_el1 rfl sc5 (hp4 ▸ hx.ext0 hm0.to).nd encB_len hi0 rfl) ?_
    refine rw_p rfl rfl (y_conv rfl is5 it115 w_of8) ?_
    refine rw_p rfl rfl (y_shl rfl rfl (by decide) (w_shl 24 rfl (by decide))) ?_
    refine rw_p rfl rfl (y_move rfl) ?_
    refine rw_p rfl rfl (y_move rfl) ?_
    refine rw_p rfl rfl (y_mul rfl rfl (mulK 4 (by omega))) ?_
    refine rw_p rfl rfl (y_add rfl rfl (addK 1 (by omega))) ?_
    refine rw_p rfl rfl (y_index rfl rfl sl27 hp4 (by omega) (by omega)) ?_
    refine rw_p rfl rfl (y_el1 rfl sc5 (hp4 ▸ hx.ext0 hm0.to).nd encB_len hi1 rfl) ?_
    refine rw_p rfl rfl (y_conv rfl is5 it115 w_of8) ?_
    refine rw_p rfl rfl (y_shl rfl rfl (by decide) (w_shl 16 rfl (by decide))) ?_
    refine rw_p rfl rfl (y_or_ rfl rfl w_or) ?_
    refine rw_p rfl rfl (y_move rfl) ?_
    refine rw_p rfl rfl (y_move rfl) ?_
    refine rw_p rfl rfl (y_mul rfl rfl (mulK 4 (by omega))) ?_
    refine rw_p rfl rfl (y_add rfl rfl (addK 2 (by omega))) ?_
    refine rw_p rfl rfl (y_index rfl rfl sl27 hp4 (by omega) (by omega)) ?_
    refine rw_p rfl rfl (y_el1 rfl sc5 (hp4 ▸ hx.ext0 hm0.to).nd encB_len hi2 rfl) ?_
    refine rw_p rfl rfl (y_conv rfl is5 it115 w_of8) ?_
    refine rw_p rfl rfl (y_shl rfl rfl (by decide) (w_shl 8 rfl (by decide))) ?_
    refine rw_p rfl rfl (y_or_ rfl rfl w_or) ?_
    refine rw_p rfl rfl (y_move rfl) ?_
    refine rw_p rfl rfl (y_move rfl) ?_
    refine rw_p rfl rfl (y_mul rfl rfl (mulK 4 (by omega))) ?_
    refine rw_p rfl rfl (y_add rfl rfl (addK 3 (by omega))) ?_
    refine rw_p rfl rfl (y_index rfl rfl sl27 hp4 (by omega) (by omega)) ?_
    refine rw_p rfl rfl (y_el1 rfl sc5 (hp4 ▸ hx.ext0 hm0.to).nd encB_len hi3 rfl) ?_
    refine rw_p rfl rfl (y_conv rfl is5 it115 w_of8) ?_
    refine a_cut ?_
    refine rw_p rfl rfl (y_or_ rfl rfl w_or) ?_
    refine a_buildSlice (l := [_]) rfl rfl sl105 z115 rfl rfl rfl rfl rfl rfl rfl hm trivial fun m1 w hg_m1 hm hh => ?_
    refine a_append rfl rfl rfl rfl rfl rfl sl105 sl105 z115 rfl rfl (Rd.row0 (hm.get (k := 0) rfl)) rfl ha_s hm 1 rfl (by omega) (by omega) fun p_s cap_s g_s b_s w ha_s hm => ?_
    replace ha_s := ha_s.to (show _ = (Pl.wordsB bs (x + 1)).flatMap encW by rw [Pl.wordsB_next, List.flatMap_append, hwb]; rfl)
    refine rw_p rfl rfl (y_assign rfl) ?_
    refine rw_done ?_
    refine gn_bl ?_
    refine gn_sq ?_
    refine HW_text (.pure 0 (.pure 1 (.pure 2 .done))) (by kernel_rfl) ?_
    refine rw_p rfl rfl (y_move rfl) ?_
    refine rw_p rfl rfl (y_add rfl rfl (i64w (by omega) (by omega))) ?_
    refine rw_p rfl rfl (y_assign rfl) ?_
    refine rw_done ?_
    exact next (x + 1, p_s, cap_s, g_s, b_s) (by simp only; omega) ⟨(hm.pick [1] rfl), ha_s, by simp only; omega⟩ ⟨nx x, rfl, rfl, rfl, trivial⟩
  ·
    obtain ⟨x, p_s, cap_s, g_s, b_s⟩ := x
    simp only at hm ha_s hk hc0 ⊢
    simp only [decide_eq_false_iff_not] at hc0
    obtain rfl : x = 16 := by omega
    refine HW_exit rfl ?_
    refine gx_sq (gx_lp ?_)
    refine gx_here ?_
    refine gn_sq ?_
    refine HW_seq rfl ?_
    refine HW_seq rfl ?_
    refine HW_text (.pure 0 .done) (by kernel_rfl) ?_
    refine rw_p rfl rfl (y_assign rfl) ?_
    refine rw_done ?_
    refine gn_sq ?_
    refine HW_block rfl ?_
    refine HW_loopK (ι := Nat × Option Addr × Nat × Nat × Blk) rfl (ks := [2]) (.cons rfl .nil) (fun x => [(5, .int .i64 ((16 + x.1 : Nat) : Int)), (3, .slice x.2.1 (16 + x.1) x.2.2.1)]) (fun x w => Mem w0 w No [(x.2.2.2.1, x.2.2.2.2)] ∧ Acc 115 1 x.2.1 (16 + x.1) x.2.2.1 ((Pl.sched (Pl.wordsB bs 16) x.1).flatMap encW) x.2.2.2.1 x.2.2.2.2 ∧ x.1 ≤ 48) (fun x => 48 - x.1) (0, p_s, cap_s, g_s, b_s) (⟨hm, ha_s, Nat.zero_le _⟩) ⟨rfl, rfl, trivial⟩ (fun x w hM => ?_)
    obtain ⟨hm, ha_s, hk⟩ := hM
    refine HW_seq rfl ?_
    refine HW_seq rfl ?_
    refine HW_text (.pure 0 (.pure 1 .done)) (by kernel_rfl) ?_
    refine rw_p rfl rfl (y_move rfl) ?_
    refine rw_p rfl rfl (y_lt rfl rfl) ?_
    refine rw_done ?_
    refine gn_sq ?_
    refine HW_cond rfl rfl (fun hc1 => ?_) (fun hc1 => ?_)
    ·
      obtain ⟨y, p_s, cap_s, g_s, b_s⟩ := x
      simp only at hm ha_s hk hc1 ⊢
      simp only [decide_eq_true_eq] at hc1
      have hsl : (Pl.sched (Pl.wordsB bs 16) y).length = 16 + y := by rw [Pl.sched_len, Pl.wordsB_len]
      have hg15 : (Pl.sched (Pl.wordsB bs 16) y)[16 + y - 15]? = some ((Pl.sched (Pl.wordsB bs 16) y).getD (y + 1) 0) := by rw [List.getD_eq_getElem?_getD, show 16 + y - 15 = y + 1 by omega, List.getElem?_eq_getElem (by omega)]; rfl
      have hg2 : (Pl.sched (Pl.wordsB bs 16) y)[16 + y - 2]? = some ((Pl.sched (Pl.wordsB bs 16) y).getD (y + 14) 0) := by rw [List.getD_eq_getElem?_getD, show 16 + y - 2 = y + 14 by omega, List.getElem?_eq_getElem (by omega)]; rfl
      have hg7 : (Pl.sched (Pl.wordsB bs 16) y)[16 + y - 7]? = some ((Pl.sched (Pl.wordsB bs 16) y).getD (y + 9) 0) := by rw [List.getD_eq_getElem?_getD, show 16 + y - 7 = y + 9 by omega, List.getElem?_eq_getElem (by omega)]; rfl
      have hg16 : (Pl.sched (Pl.wordsB bs 16) y)[16 + y - 16]? = some ((Pl.sched (Pl.wordsB bs 16) y).getD (y + 0) 0) := by rw [List.getD_eq_getElem?_getD, show 16 + y - 16 = y + 0 by omega, List.getElem?_eq_getElem (by omega)]; rfl
      refine HW_skip rfl ?_
      refine gn_sq ?_
      refine HW_seq rfl ?_
      refine HW_block rfl ?_
      refine HW_seq rfl ?_
      refine HW_text (.pure 0 (.pure 1 (.pure 2 (.pure 3 (.pure 4 (.pure 5 .done)))))) (by kernel_rfl) ?_
      refine rw_p rfl rfl (y_move rfl) ?_
      refine rw_p rfl rfl (y_move rfl) ?_
      refine rw_p rfl rfl (y_sub rfl rfl (subK 15 (by omega) (by omega))) ?_
      refine rw_p rfl rfl (y_index rfl rfl sl105 (ha_s.ptr (by omega)) (by omega) (by omega)) ?_
      refine rw_p rfl rfl (y_el1 rfl sc115 ((ha_s.ptr (by omega)) ▸ ha_s.rd hm 0 rfl).nt encW_len hg15 rfl) ?_
      refine rw_p rfl rfl (y_assign rfl) ?_
      refine rw_done ?_
      refine gn_sq ?_
      refine HW_seq rfl ?_
      refine HW_text (.pure 0 (.pure 1 (.pure 2 (.pure 3 (.pure 4 (.pure 5 .done)))))) (by kernel_rfl) ?_
      refine rw_p rfl rfl (y_move rfl) ?_
      refine rw_p rfl rfl (y_move rfl) ?_
      refine rw_p rfl rfl (y_sub rfl rfl (subK 2 (by omega) (by omega))) ?_
      refine rw_p rfl rfl (y_index rfl rfl sl105 (ha_s.ptr (by omega)) (by omega) (by omega)) ?_
      refine rw_p rfl rfl (y_el1 rfl sc115 ((ha_s.ptr (by omega)) ▸ ha_s.rd hm 0 rfl).nt encW_len hg2 rfl) ?_
      refine rw_p rfl rfl (y_assign rfl) ?_
      refine rw_done ?_
      refine gn_sq ?_
      refine HW_seq rfl ?_
      refine HW_text (.pure 0 (.act 1 (.pure 2 (.act 3 (.pure 4 (.pure 5 (.pure 6 (.pure 7 (.pure 8 .done))))))))) (by kernel_rfl) ?_
      refine rw_p rfl rfl (y_move rfl) ?_
      refine a_call rfl rfl rfl go72 (r2_rot _ 7 _ (by decide) (by decide)) fun v w hR => ?_
      obtain ⟨rfl, hE⟩ := hR
      refine ⟨trivial, ?_⟩
      replace hm := hm.ext hE
      refine rw_p rfl rfl (y_move rfl) ?_
      refine a_call rfl rfl rfl go72 (r2_rot _ 18 _ (by decide) (by decide)) fun v w hR => ?_
      obtain ⟨rfl, hE⟩ := hR
      refine ⟨trivial, ?_⟩
      replace hm := hm.ext hE
      refine rw_p rfl rfl (y_xor_ rfl rfl w_xor) ?_
      refine rw_p rfl rfl (y_move rfl) ?_
      refine rw_p rfl rfl (y_shr rfl rfl (by decide) (w_shr 3 rfl (by decide))) ?_
      refine rw_p rfl rfl (y_xor_ rfl rfl w_xor) ?_
      refine rw_p rfl rfl (y_assign rfl) ?_
      refine rw_done ?_
      refine gn_sq ?_
      refine HW_seq rfl ?_
      refine HW_text (.pure 0 (.act 1 (.pure 2 (.act 3 (.pure 4 (.pure 5 (.pure 6 (.pure 7 (.pure 8 .done))))))))) (by kernel_rfl) ?_
      refine rw_p rfl rfl (y_move rfl) ?_
      refine a_call rfl rfl rfl go72 (r2_rot _ 17 _ (by decide) (by decide)) fun v w hR => ?_
      obtain ⟨rfl, hE⟩ := hR
      refine ⟨trivial, ?_⟩
      replace hm := hm.ext hE
      refine rw_p rfl rfl (y_move rfl) ?_
      refine a_call rfl rfl rfl go72 (r2_rot _ 19 _ (by decide) (by decide)) fun v w hR => ?_
      obtain ⟨rfl, hE⟩ := hR
      refine ⟨trivial, ?_⟩
      replace hm := hm.ext hE
      refine rw_p rfl rfl (y_xor_ rfl rfl w_xor) ?_
      refine rw_p rfl rfl (y_move rfl) ?_
      refine rw_p rfl rfl (y_shr rfl rfl (by decide) (w_shr 10 rfl (by decide))) ?_
      refine rw_p rfl rfl (y_xor_ rfl rfl w_xor) ?_
      refine rw_p rfl rfl (y_assign rfl) ?_
      refine rw_done ?_
      refine gn_sq ?_
      refine HW_draw (.pure 0 (.pure 1 (.pure 2 (.pure 3 (.pure 4 (.pure 5 (.pure 6 (.pure 7 (.pure 8 (.pure 9 (.pure 10 (.pure 11 (.pure 12 (.pure 13 (.pure 14 (.cut (.pure 15 (.act 16 (.act 17 (.pure 18 .done)))))))))))))))))))) No mix (by kernel_rfl) hm fun w hw hm0 hh => ?_
      have hm := hm0
      refine rw_p rfl rfl (y_move rfl) ?_
      refine rw_p rfl rfl (y_move rfl) ?_
      refine rw_p rfl rfl (y_move rfl) ?_
      refine rw_p rfl rfl (y_move rfl) ?_
      refine rw_p rfl rfl (y_sub rfl rfl (subK 7 (by omega) (by omega))) ?_
      refine rw_p rfl rfl (y_index rfl rfl sl105 (ha_s.ptr (by omega)) (by omega) (by omega)) ?_
      refine rw_p rfl rfl (y_el1 rfl sc115 ((ha_s.ptr (by omega)) ▸ ha_s.rd hm0 0 rfl).nd encW_len hg7 rfl) ?_
      refine rw_p rfl rfl (y_add rfl rfl w_add) ?_
      refine rw_p rfl rfl (y_move rfl) ?_
      refine rw_p rfl rfl (y_add rfl rfl w_add) ?_
      refine rw_p rfl rfl (y_move rfl) ?_
      refine rw_p rfl rfl (y_move rfl) ?_
      refine rw_p rfl rfl (y_sub rfl rfl (subK 16 (by omega) (by omega))) ?_
      refine rw_p rfl rfl (y_index rfl rfl sl105 (ha_s.ptr (by omega)) (by omega) (by omega)) ?_
      refine rw_p rfl rfl (y_el1 rfl sc115 ((ha_s.ptr (by omega)) ▸ ha_s.rd hm0 0 rfl).nd encW_len hg16 rfl) ?_
      refine a_cut ?_
      refine rw_p rfl rfl (y_add rfl rfl w_add) ?_
      refine a_buildSlice (l := [_]) rfl rfl sl105 z115 rfl rfl rfl rfl rfl rfl rfl hm trivial fun m1 w hg_m1 hm hh => ?_
      refine a_append rfl rfl rfl rfl rfl rfl sl105 sl105 z115 rfl rfl (Rd.row0 (hm.get (k := 0) rfl)) rfl ha_s hm 1 rfl (by omega) (by omega) fun p_s cap_s g_s b_s w ha_s hm => ?_
      replace ha_s := ha_s.to (show _ = (Pl.sched (Pl.wordsB bs 16) (y + 1)).flatMap encW by simp only [Pl.sched, List.flatMap_append]; rfl)
      refine rw_p rfl rfl (y_assign rfl) ?_
      refine rw_done ?_
      refine gn_bl ?_
      refine gn_sq ?_
      refine HW_text (.pure 0 (.pure 1 (.pure 2 .done))) (by kernel_rfl) ?_
      refine rw_p rfl rfl (y_move rfl) ?_
      refine rw_p rfl rfl (y_add rfl rfl (addK (a := 16 + y) 1 (by omega))) ?_
      refine rw_p rfl rfl (y_assign rfl) ?_
      refine rw_done ?_
      exact next (y + 1, p_s, cap_s, g_s, b_s) (by simp only; omega) ⟨(hm.pick [1] rfl), ha_s, by simp only; omega⟩ ⟨rfl, rfl, rfl, trivial⟩
    ·
      obtain ⟨y, p_s, cap_s, g_s, b_s⟩ := x
      simp only at hm ha_s hk hc1 ⊢
      simp only [decide_eq_false_iff_not] at hc1
      obtain rfl : y = 48 := by omega
      refine HW_exit rfl ?_
      refine gx_sq (gx_lp ?_)
      refine gx_here ?_
      refine gn_sq ?_
      refine HW_seq rfl ?_
      refine HW_text (.pure 0 (.pure 1 .done)) (by kernel_rfl) ?_
      refine rw_p rfl rfl (y_move rfl) ?_
      refine rw_p rfl rfl (y_assign rfl) ?_
      refine rw_done ?_
      refine gn_sq ?_
      refine HW_ret rfl ?_
      refine toR (fin hret rfl (.tmp rfl .nil) .one ?_)
      exact ⟨p_s, cap_s, g_s, b_s, rfl, ha_s, (hm.pick [0] rfl)⟩

set_option maxHeartbeats 3200000 in
theorem r2_block (p q u : Option Addr) (c1 c2 c3 : Nat) (s : Pl.S8) (ws : List UInt32) (w0 : World) (hx : Rd w0 p (s.l.flatMap encW)) (hy : Rd w0 q (ws.flatMap encW)) (hz : Rd w0 u (Pl.shK.flatMap encW)) (hwl : ws.length = 64) : C Try.prog 66 [.slice p 8 c1, .slice q 64 c2, .slice u 64 c3] w0 fun v w' => ∃ q c g d, v = .slice q 8 c ∧ Acc 115 1 q 8 c ((s.add (Pl.rnds Pl.shK ws s 64)).l.flatMap encW) g d ∧ Mem w0 w' No [(g, d)] := by
  obtain ⟨b1, o1, hps⟩ := hx.atI encW_len (by decide) (show s.l[0]? = some s.a from rfl)
  obtain ⟨w1_, hw1_⟩ : ∃ y_, ws[0]? = some y_ := ⟨_, List.getElem?_eq_getElem (by omega)⟩
  obtain ⟨b2, o2, hpw⟩ := hy.atI encW_len (by decide) hw1_
  obtain ⟨b3, o3, hpk⟩ := hz.atI encW_len (by decide) (show Pl.shK[0]? = some _ from rfl)
  refine C_of Try.func66 rfl rfl rfl fun κ hret hnorm => ?_
  have hm := Mem.start w0
  refine HW_seq rfl ?_
  refine HW_text (.pure 0 .done) (by kernel_rfl) ?_
  refine rw_p rfl rfl (y_assign rfl) ?_
  refine rw_done ?_
  refine gn_sq ?_
  refine HW_seq rfl ?_
  refine HW_text (.act 0 (.pure 1 (.act 2 (.pure 3 .done)))) (by kernel_rfl) ?_
  refine a_buildSlice (l := []) rfl rfl sl105 z115 rfl rfl rfl rfl rfl rfl rfl hm trivial fun m1 w hg_m1 hm hh => ?_
  refine rw_p rfl rfl (y_move rfl) ?_
  refine a_append rfl rfl rfl rfl rfl rfl sl105 sl105 z115 rfl (oneW _) (hx.ext0 hm.to) rfl (Acc.row rfl) hm 0 rfl (by omega) (by omega) fun p_v cap_v g_v b_v w ha_v hm => ?_
  replace ha_v := ha_v.to (show _ = (Pl.rnds Pl.shK ws s 0).l.flatMap encW from rfl)
  refine rw_p rfl rfl (y_assign rfl) ?_
  refine rw_done ?_
  refine gn_sq ?_
  refine HW_seq rfl ?_
  refine HW_seq rfl ?_
  refine HW_text (.pure 0 .done) (by kernel_rfl) ?_
  refine rw_p rfl rfl (y_assign rfl) ?_
  refine rw_done ?_
  refine gn_sq ?_
  refine HW_block rfl ?_
  refine HW_loopK (ι := Nat × Option Addr × Nat × Nat × Blk) rfl (ks := [0, 1, 2, 6]) (.cons rfl (.cons rfl (.cons rfl (.cons rfl .nil)))) (fun x => [(8, .int .i64 x.1), (7, .slice x.2.1 8 x.2.2.1)]) (fun x w => Mem w0 w No [(x.2.2.2.1, x.2.2.2.2)] ∧ Acc 115 1 x.2.1 8 x.2.2.1 ((Pl.rnds Pl.shK ws s x.1).l.flatMap encW) x.2.2.2.1 x.2.2.2.2 ∧ x.1 ≤ 64) (fun x => 64 - x.1) (0, p_v, cap_v, g_v, b_v) (⟨(hm.pick [0] rfl), ha_v, Nat.zero_le _⟩) ⟨rfl, rfl, trivial⟩ (fun x w hM => ?_)
  obtain ⟨hm, ha_v, hk⟩ := hM
  refine HW_seq rfl ?_
  refine HW_seq rfl ?_
  refine HW_text (.pure 0 (.pure 1 .done)) (by kernel_rfl) ?_
  refine rw_p rfl rfl (y_move rfl) ?_
  refine rw_p rfl rfl (y_lt rfl rfl) ?_
  refine rw_done ?_
  refine gn_sq ?_
  refine HW_cond rfl rfl (fun hc0 => ?_) (fun hc0 => ?_)
  ·
    obtain ⟨t, p_v, cap_v, g_v, b_v⟩ := x
    simp only at hm ha_v hk hc0 ⊢
    simp only [decide_eq_true_eq] at hc0
    have hki : Pl.shK[t]? = some (Pl.shK.getD t 0) := by rw [List.getD_eq_getElem?_getD, List.getElem?_eq_getElem (by rw [Pl.shK_len]; omega)]; rfl
    have hwi : ws[t]? = some (ws.getD t 0) := by rw [List.getD_eq_getElem?_getD, List.getElem?_eq_getElem (by omega)]; rfl
    refine HW_skip rfl ?_
    refine gn_sq ?_
    refine HW_seq rfl ?_
    refine HW_block rfl ?_
    refine HW_seq rfl ?_
    refine HW_text (.pure 0 (.pure 1 (.pure 2 (.pure 3 .done)))) (by kernel_rfl) ?_
    refine rw_p rfl rfl (y_move rfl) ?_
    refine rw_p rfl rfl (y_index rfl rfl sl105 (ha_v.ptr (by decide)) (by decide) (by decide)) ?_
    refine rw_p rfl rfl (y_el1 rfl sc115 ((ha_v.ptr (by decide)) ▸ ha_v.rd hm 0 rfl).nt encW_len (show (Pl.rnds Pl.shK ws s t).l[_]? = some _ from rfl) rfl) ?_
    refine rw_p rfl rfl (y_assign rfl) ?_
    refine rw_done ?_
    refine gn_sq ?_
    refine HW_seq rfl ?_
    refine HW_text (.pure 0 (.pure 1 (.pure 2 (.pure 3 .done)))) (by kernel_rfl) ?_
    refine rw_p rfl rfl (y_move rfl) ?_
    refine rw_p rfl rfl (y_index rfl rfl sl105 (ha_v.ptr (by decide)) (by decide) (by decide)) ?_
    refine rw_p rfl rfl (y_el1 rfl sc115 ((ha_v.ptr (by decide)) ▸ ha_v.rd hm 0 rfl).nt encW_len (show (Pl.rnds Pl.shK ws s t).l[_]? = some _ from rfl) rfl) ?_
    refine rw_p rfl rfl (y_assign rfl) ?_
    refine rw_done ?_
    refine gn_sq ?_
    refine HW_via (ι := Unit) rfl (ks := [0, 1, 2, 6, 7, 8, 9, 10]) (.cons rfl (.cons rfl (.cons rfl (.cons rfl (.cons rfl (.cons rfl (.cons rfl (.cons rfl .nil)))))))) (fun u9 => [(11, .int .u32 ((Pl.shT1 (Pl.rnds Pl.shK ws s t) (Pl.shK.getD t 0) (ws.getD t 0)).toNat : Int))]) (fun u9 w => Mem w0 w No [(g_v, b_v)]) ?_ (fun u9 w hM => ?_)
    ·
      refine HW_draw (.pure 0 (.pure 1 (.pure 2 (.pure 3 (.pure 5 (.pure 8 (.pure 12 (.pure 13 (.pure 14 (.pure 15 (.pure 16 (.pure 17 (.pure 18 (.pure 19 (.pure 20 (.pure 21 (.pure 22 (.pure 23 (.pure 25 (.pure 26 (.pure 27 (.pure 28 (.pure 30 (.pure 31 (.pure 32 (.pure 33 (.act 4 (.act 6 (.pure 7 (.act 9 (.pure 10 (.pure 11 (.pure 24 (.pure 29 (.pure 34 (.pure 35 .done)))))))))))))))))))))))))))))))))))) No mix (by kernel_rfl) hm fun w hw hm0 hh => ?_
      have hm := hm0
      refine rw_p rfl rfl (y_move rfl) ?_
      refine rw_p rfl rfl (y_index rfl rfl sl105 (ha_v.ptr (by decide)) (by decide) (by decide)) ?_
      refine rw_p rfl rfl (y_el1 rfl sc115 ((ha_v.ptr (by decide)) ▸ ha_v.rd hm0 0 rfl).nd encW_len (show (Pl.rnds Pl.shK ws s t).l[_]? = some _ from rfl) rfl) ?_
      refine rw_p rfl rfl (y_move rfl) ?_
      refine rw_p rfl rfl (y_move rfl) ?_
      refine rw_p rfl rfl (y_move rfl) ?_
      refine rw_p rfl rfl (y_move rfl) ?_
      refine rw_p rfl rfl (y_move rfl) ?_
      refine rw_p rfl rfl (y_index rfl rfl sl105 (ha_v.ptr (by decide)) (by decide) (by decide)) ?_
      refine rw_p rfl rfl (y_el1 rfl sc115 ((ha_v.ptr (by decide)) ▸ ha_v.rd hm0 0 rfl).nd encW_len (show (Pl.rnds Pl.shK ws s t).l[_]? = some _ from rfl) rfl) ?_
      refine rw_p rfl rfl (y_and_ rfl rfl w_and) ?_
      refine rw_p rfl rfl (y_move rfl) ?_
      refine rw_p rfl rfl (y_com rfl rfl w_com) ?_
      refine rw_p rfl rfl (y_move rfl) ?_
      refine rw_p rfl rfl (y_index rfl rfl sl105 (ha_v.ptr (by decide)) (by decide) (by decide)) ?_
      refine rw_p rfl rfl (y_el1 rfl sc115 ((ha_v.ptr (by decide)) ▸ ha_v.rd hm0 0 rfl).nd encW_len (show (Pl.rnds Pl.shK ws s t).l[_]? = some _ from rfl) rfl) ?_
      refine rw_p rfl rfl (y_and_ rfl rfl w_and) ?_
      refine rw_p rfl rfl (y_xor_ rfl rfl w_xor) ?_
      refine rw_p rfl rfl (y_move rfl) ?_
      refine rw_p rfl rfl (y_move rfl) ?_
      refine rw_p rfl rfl (y_index rfl rfl sl105 hpk (by omega) (by omega)) ?_
      refine rw_p rfl rfl (y_el1 rfl sc115 (hpk ▸ hz.ext0 hm0.to).nd encW_len hki rfl) ?_
      refine rw_p rfl rfl (y_move rfl) ?_
      refine rw_p rfl rfl (y_move rfl) ?_
      refine rw_p rfl rfl (y_index rfl rfl sl105 hpw (by omega) (by omega)) ?_
      refine rw_p rfl rfl (y_el1 rfl sc115 (hpw ▸ hy.ext0 hm0.to).nd encW_len hwi rfl) ?_
      refine a_call rfl rfl rfl go72 (r2_rot _ 6 _ (by decide) (by decide)) fun v w hR => ?_
      obtain ⟨rfl, hE⟩ := hR
      refine ⟨hh.ext hE, ?_⟩
      replace hm := hm.ext hE
      replace hh := hh.ext hE
      refine a_call rfl rfl rfl go72 (r2_rot _ 11 _ (by decide) (by decide)) fun v w hR => ?_
      obtain ⟨rfl, hE⟩ := hR
      refine ⟨hh.ext hE, ?_⟩
      replace hm := hm.ext hE
      replace hh := hh.ext hE
      refine rw_p rfl rfl (y_xor_ rfl rfl w_xor) ?_
      refine a_call rfl rfl rfl go72 (r2_rot _ 25 _ (by decide) (by decide)) fun v w hR => ?_
      obtain ⟨rfl, hE⟩ := hR
      refine ⟨hh.ext hE, ?_⟩
      replace hm := hm.ext hE
      replace hh := hh.ext hE
      refine rw_p rfl rfl (y_xor_ rfl rfl w_xor) ?_
      refine rw_p rfl rfl (y_add rfl rfl w_add) ?_
      refine rw_p rfl rfl (y_add rfl rfl w_add) ?_
      refine rw_p rfl rfl (y_add rfl rfl w_add) ?_
      refine rw_p rfl rfl (y_add rfl rfl w_add) ?_
      refine rw_p rfl rfl (y_assign rfl) ?_
      refine rw_done ?_
      exact gn_vi () hm ⟨rfl, rfl, rfl, rfl, rfl, rfl, rfl, rfl, rfl, trivial⟩
    ·
      have hm := hM
      refine HW_via (ι := Unit) rfl (ks := [0, 1, 2, 6, 7, 8, 10, 11]) (.cons rfl (.cons rfl (.cons rfl (.cons rfl (.cons rfl (.cons rfl (.cons rfl (.cons rfl .nil)))))))) (fun u8 => [(12, .int .u32 ((Pl.shT2 (Pl.rnds Pl.shK ws s t)).toNat : Int))]) (fun u8 w => Mem w0 w No [(g_v, b_v)]) ?_ (fun u8 w hM => ?_)
      ·
        refine HW_draw (.pure 0 (.pure 2 (.pure 5 (.pure 8 (.pure 9 (.pure 10 (.pure 11 (.pure 12 (.pure 13 (.pure 14 (.pure 15 (.pure 16 (.pure 17 (.pure 18 (.pure 19 (.pure 20 (.pure 21 (.pure 22 (.pure 23 (.pure 24 (.pure 25 (.pure 26 (.act 1 (.act 3 (.pure 4 (.act 6 (.pure 7 (.pure 27 (.pure 28 .done))))))))))))))))))))))))))))) No mix (by kernel_rfl) hm fun w hw hm0 hh => ?_
        have hm := hm0
        refine rw_p rfl rfl (y_move rfl) ?_
        refine rw_p rfl rfl (y_move rfl) ?_
        refine rw_p rfl rfl (y_move rfl) ?_
        refine rw_p rfl rfl (y_move rfl) ?_
        refine rw_p rfl rfl (y_move rfl) ?_
        refine rw_p rfl rfl (y_index rfl rfl sl105 (ha_v.ptr (by decide)) (by decide) (by decide)) ?_
        refine rw_p rfl rfl (y_el1 rfl sc115 ((ha_v.ptr (by decide)) ▸ ha_v.rd hm0 0 rfl).nd encW_len (show (Pl.rnds Pl.shK ws s t).l[_]? = some _ from rfl) rfl) ?_
        refine rw_p rfl rfl (y_and_ rfl rfl w_and) ?_
        refine rw_p rfl rfl (y_move rfl) ?_
        refine rw_p rfl rfl (y_move rfl) ?_
        refine rw_p rfl rfl (y_index rfl rfl sl105 (ha_v.ptr (by decide)) (by decide) (by decide)) ?_
        refine rw_p rfl rfl (y_el1 rfl sc115 ((ha_v.ptr (by decide)) ▸ ha_v.rd hm0 0 rfl).nd encW_len (show (Pl.rnds Pl.shK ws s t).l[_]? = some _ from rfl) rfl) ?_
        refine rw_p rfl rfl (y_and_ rfl rfl w_and) ?_
        refine rw_p rfl rfl (y_xor_ rfl rfl w_xor) ?_
        refine rw_p rfl rfl (y_move rfl) ?_
        refine rw_p rfl rfl (y_index rfl rfl sl105 (ha_v.ptr (by decide)) (by decide) (by decide)) ?_
        refine rw_p rfl rfl (y_el1 rfl sc115 ((ha_v.ptr (by decide)) ▸ ha_v.rd hm0 0 rfl).nd encW_len (show (Pl.rnds Pl.shK ws s t).l[_]? = some _ from rfl) rfl) ?_
        refine rw_p rfl rfl (y_move rfl) ?_
        refine rw_p rfl rfl (y_index rfl rfl sl105 (ha_v.ptr (by decide)) (by decide) (by decide)) ?_
        refine rw_p rfl rfl (y_el1 rfl sc115 ((ha_v.ptr (by decide)) ▸ ha_v.rd hm0 0 rfl).nd encW_len (show (Pl.rnds Pl.shK ws s t).l[_]? = some _ from rfl) rfl) ?_
        refine rw_p rfl rfl (y_and_ rfl rfl w_and) ?_
        refine rw_p rfl rfl (y_xor_ rfl rfl w_xor) ?_
        refine a_call rfl rfl rfl go72 (r2_rot _ 2 _ (by decide) (by decide)) fun v w hR => ?_
        obtain ⟨rfl, hE⟩ := hR
        refine ⟨hh.ext hE, ?_⟩
        replace hm := hm.ext hE
        replace hh := hh.ext hE
        refine a_call rfl rfl rfl go72 (r2_rot _ 13 _ (by decide) (by decide)) fun v w hR => ?_
        obtain ⟨rfl, hE⟩ := hR
        refine ⟨hh.ext hE, ?_⟩
        replace hm := hm.ext hE
        replace hh := hh.ext hE
        refine rw_p rfl rfl (y_xor_ rfl rfl w_xor) ?_
        refine a_call rfl rfl rfl go72 (r2_rot _ 22 _ (by decide) (by decide)) fun v w hR => ?_
        obtain ⟨rfl, hE⟩ := hR
        refine ⟨hh.ext hE, ?_⟩
        replace hm := hm.ext hE
        replace hh := hh.ext hE
        refine rw_p rfl rfl (y_xor_ rfl rfl w_xor) ?_
        refine rw_p rfl rfl (y_add rfl rfl w_add) ?_
        refine rw_p rfl rfl (y_assign rfl) ?_
        refine rw_done ?_
        exact gn_vi () hm ⟨rfl, rfl, rfl, rfl, rfl, rfl, rfl, rfl, rfl, trivial⟩
      ·
        have hm := hM
        refine HW_draw (.pure 0 (.pure 1 (.pure 2 (.pure 3 (.pure 4 (.pure 5 (.pure 6 (.pure 7 (.pure 8 (.pure 9 (.pure 10 (.pure 11 (.pure 12 (.pure 13 (.pure 14 (.pure 15 (.pure 16 (.pure 17 (.pure 18 (.pure 19 (.pure 20 (.pure 21 (.pure 22 (.pure 23 (.pure 24 (.pure 25 (.cut (.act 26 (.pure 27 .done))))))))))))))))))))))))))))) No mix (by kernel_rfl) hm fun w hw hm0 hh => ?_
        have hm := hm0
        refine rw_p rfl rfl (y_move rfl) ?_
        refine rw_p rfl rfl (y_move rfl) ?_
        refine rw_p rfl rfl (y_add rfl rfl w_add) ?_
        refine rw_p rfl rfl (y_move rfl) ?_
        refine rw_p rfl rfl (y_index rfl rfl sl105 (ha_v.ptr (by decide)) (by decide) (by decide)) ?_
        refine rw_p rfl rfl (y_el1 rfl sc115 ((ha_v.ptr (by decide)) ▸ ha_v.rd hm0 0 rfl).nd encW_len (show (Pl.rnds Pl.shK ws s t).l[_]? = some _ from rfl) rfl) ?_
        refine rw_p rfl rfl (y_move rfl) ?_
        refine rw_p rfl rfl (y_index rfl rfl sl105 (ha_v.ptr (by decide)) (by decide) (by decide)) ?_
        refine rw_p rfl rfl (y_el1 rfl sc115 ((ha_v.ptr (by decide)) ▸ ha_v.rd hm0 0 rfl).nd encW_len (show (Pl.rnds Pl.shK ws s t).l[_]? = some _ from rfl) rfl) ?_
        refine rw_p rfl rfl (y_move rfl) ?_
        refine rw_p rfl rfl (y_index rfl rfl sl105 (ha_v.ptr (by decide)) (by decide) (by decide)) ?_
        refine rw_p rfl rfl (y_el1 rfl sc115 ((ha_v.ptr (by decide)) ▸ ha_v.rd hm0 0 rfl).nd encW_len (show (Pl.rnds Pl.shK ws s t).l[_]? = some _ from rfl) rfl) ?_
        refine rw_p rfl rfl (y_move rfl) ?_
        refine rw_p rfl rfl (y_index rfl rfl sl105 (ha_v.ptr (by decide)) (by decide) (by decide)) ?_
        refine rw_p rfl rfl (y_el1 rfl sc115 ((ha_v.ptr (by decide)) ▸ ha_v.rd hm0 0 rfl).nd encW_len (show (Pl.rnds Pl.shK ws s t).l[_]? = some _ from rfl) rfl) ?_
        refine rw_p rfl rfl (y_move rfl) ?_
        refine rw_p rfl rfl (y_add rfl rfl w_add) ?_
        refine rw_p rfl rfl (y_move rfl) ?_
        refine rw_p rfl rfl (y_index rfl rfl sl105 (ha_v.ptr (by decide)) (by decide) (by decide)) ?_
        refine rw_p rfl rfl (y_el1 rfl sc115 ((ha_v.ptr (by decide)) ▸ ha_v.rd hm0 0 rfl).nd encW_len (show (Pl.rnds Pl.shK ws s t).l[_]? = some _ from rfl) rfl) ?_
        refine rw_p rfl rfl (y_move rfl) ?_
        refine rw_p rfl rfl (y_index rfl rfl sl105 (ha_v.ptr (by decide)) (by decide) (by decide)) ?_
        refine rw_p rfl rfl (y_el1 rfl sc115 ((ha_v.ptr (by decide)) ▸ ha_v.rd hm0 0 rfl).nd encW_len (show (Pl.rnds Pl.shK ws s t).l[_]? = some _ from rfl) rfl) ?_
        refine rw_p rfl rfl (y_move rfl) ?_
        refine rw_p rfl rfl (y_index rfl rfl sl105 (ha_v.ptr (by decide)) (by decide) (by decide)) ?_
        refine rw_p rfl rfl (y_el1 rfl sc115 ((ha_v.ptr (by decide)) ▸ ha_v.rd hm0 0 rfl).nd encW_len (show (Pl.rnds Pl.shK ws s t).l[_]? = some _ from rfl) rfl) ?_
        refine a_cut ?_
        refine a_buildSlice (l := [_, _, _, _, _, _, _, _]) rfl rfl sl105 z115 rfl rfl rfl rfl rfl rfl rfl hm trivial fun m42 w hg_m42 hm hh => ?_
        refine rw_p rfl rfl (y_assign rfl) ?_
        refine rw_done ?_
        refine gn_bl ?_
        refine gn_sq ?_
        refine HW_text (.pure 0 (.pure 1 (.pure 2 .done))) (by kernel_rfl) ?_
        refine rw_p rfl rfl (y_move rfl) ?_
        refine rw_p rfl rfl (y_add rfl rfl (i64w (by omega) (by omega))) ?_
        refine rw_p rfl rfl (y_assign rfl) ?_
        refine rw_done ?_
        exact next (t + 1, _, 8, m42, _) (by simp only; omega) ⟨(hm.pick [0] rfl), Acc.row rfl, by simp only; omega⟩ ⟨nx t, rfl, rfl, rfl, rfl, rfl, trivial⟩
  ·
    obtain ⟨t, p_v, cap_v, g_v, b_v⟩ := x
    simp only at hm ha_v hk hc0 ⊢
    simp only [decide_eq_false_iff_not] at hc0
    obtain rfl : t = 64 := by omega
    refine HW_exit rfl ?_
    refine gx_sq (gx_lp ?_)
    refine gx_here ?_
    refine gn_sq ?_
    refine HW_seq rfl ?_
    refine HW_text (.pure 0 .done) (by kernel_rfl) ?_
    refine rw_p rfl rfl (y_assign rfl) ?_
    replace hm := hm.gapIn
    have ha_s := Acc.nil 115 1 none 0
    refine rw_done ?_
    refine gn_sq ?_
    refine HW_seq rfl ?_
    refine HW_seq rfl ?_
    refine HW_text (.pure 0 .done) (by kernel_rfl) ?_
    refine rw_p rfl rfl (y_assign rfl) ?_
    refine rw_done ?_
    refine gn_sq ?_
    refine HW_block rfl ?_
    refine HW_loopK (ι := Nat × Option Addr × Nat × Nat × Blk) rfl (ks := [0, 6, 7]) (.cons rfl (.cons rfl (.cons rfl .nil))) (fun x => [(14, .int .i64 x.1), (13, .slice x.2.1 x.1 x.2.2.1)]) (fun x w => Mem w0 w No [(x.2.2.2.1, x.2.2.2.2), (g_v, b_v)] ∧ Acc 115 1 x.2.1 x.1 x.2.2.1 (((s.add (Pl.rnds Pl.shK ws s 64)).l.take x.1).flatMap encW) x.2.2.2.1 x.2.2.2.2 ∧ x.1 ≤ 8) (fun x => 8 - x.1) (0, none, 0, 0, .gap) (⟨(hm.pick [0, 1] rfl), ha_s, Nat.zero_le _⟩) ⟨rfl, rfl, trivial⟩ (fun x w hM => ?_)
    obtain ⟨hm, ha_s, hk⟩ := hM
    refine HW_seq rfl ?_
    refine HW_seq rfl ?_
    refine HW_text (.pure 0 (.pure 1 .done)) (by kernel_rfl) ?_
    refine rw_p rfl rfl (y_move rfl) ?_
    refine rw_p rfl rfl (y_lt rfl rfl) ?_
    refine rw_done ?_
    refine gn_sq ?_
    refine HW_cond rfl rfl (fun hc1 => ?_) (fun hc1 => ?_)
    ·
      obtain ⟨x, p_s, cap_s, g_s, b_s⟩ := x
      simp only at hm ha_s hk hc1 ⊢
      simp only [decide_eq_true_eq] at hc1
      have hsi : s.l[x]? = some (s.l.getD x 0) := by rw [List.getD_eq_getElem?_getD, List.getElem?_eq_getElem (show x < s.l.length from (by omega : x < 8))]; rfl
      have hvi : (Pl.rnds Pl.shK ws s 64).l[x]? = some ((Pl.rnds Pl.shK ws s 64).l.getD x 0) := by rw [List.getD_eq_getElem?_getD, List.getElem?_eq_getElem (show x < ((Pl.rnds Pl.shK ws s 64)).l.length from (by omega : x < 8))]; rfl
      refine HW_skip rfl ?_
      refine gn_sq ?_
      refine HW_seq rfl ?_
      refine HW_block rfl ?_
      refine HW_draw (.pure 0 (.pure 1 (.pure 2 (.pure 3 (.pure 4 (.pure 5 (.pure 6 (.pure 7 (.pure 8 (.cut (.pure 9 (.act 10 (.act 11 (.pure 12 .done)))))))))))))) No mix (by kernel_rfl) hm fun w hw hm0 hh => ?_
      have hm := hm0
      refine rw_p rfl rfl (y_move rfl) ?_
      refine rw_p rfl rfl (y_move rfl) ?_
      refine rw_p rfl rfl (y_move rfl) ?_
      refine rw_p rfl rfl (y_index rfl rfl sl105 hps (by omega) (by omega)) ?_
      refine rw_p rfl rfl (y_el1 rfl sc115 (hps ▸ hx.ext0 hm0.to).nd encW_len hsi rfl) ?_
      refine rw_p rfl rfl (y_move rfl) ?_
      refine rw_p rfl rfl (y_move rfl) ?_
      refine rw_p rfl rfl (y_index rfl rfl sl105 (ha_v.ptr (by decide)) (by omega) (by omega)) ?_
      refine rw_p rfl rfl (y_el1 rfl sc115 ((ha_v.ptr (by decide)) ▸ ha_v.rd hm0 1 rfl).nd encW_len hvi rfl) ?_
      refine a_cut ?_
      refine rw_p rfl rfl (y_add rfl rfl w_add) ?_
      refine a_buildSlice (l := [_]) rfl rfl sl105 z115 rfl rfl rfl rfl rfl rfl rfl hm trivial fun m2 w hg_m2 hm hh => ?_
      refine a_append rfl rfl rfl rfl rfl rfl sl105 sl105 z115 rfl rfl (Rd.row0 (hm.get (k := 0) rfl)) rfl ha_s hm 1 rfl (by omega) (by omega) fun p_s cap_s g_s b_s w ha_s hm => ?_
      replace ha_s := ha_s.to (show _ = ((s.add (Pl.rnds Pl.shK ws s 64)).l.take (x + 1)).flatMap encW by rw [Pl.take_snoc (Pl.S8.add_get s _ x (by omega)), List.flatMap_append]; rfl)
      refine rw_p rfl rfl (y_assign rfl) ?_
      refine rw_done ?_
      refine gn_bl ?_
      refine gn_sq ?_
      refine HW_text (.pure 0 (.pure 1 (.pure 2 .done))) (by kernel_rfl) ?_
      refine rw_p rfl rfl (y_move rfl) ?_
      refine rw_p rfl rfl (y_add rfl rfl (i64w (by omega) (by omega))) ?_
      refine rw_p rfl rfl (y_assign rfl) ?_
      refine rw_done ?_
      exact next (x + 1, p_s, cap_s, g_s, b_s) (by simp only; omega) ⟨(hm.pick [1, 2] rfl), ha_s, by simp only; omega⟩ ⟨nx x, rfl, rfl, rfl, rfl, trivial⟩
    ·
      obtain ⟨x, p_s, cap_s, g_s, b_s⟩ := x
      simp only at hm ha_s hk hc1 ⊢
      simp only [decide_eq_false_iff_not] at hc1
      obtain rfl : x = 8 := by omega
      refine HW_exit rfl ?_
      refine gx_sq (gx_lp ?_)
      refine gx_here ?_
      refine gn_sq ?_
      refine HW_seq rfl ?_
      refine HW_text (.pure 0 (.pure 1 .done)) (by kernel_rfl) ?_
      refine rw_p rfl rfl (y_move rfl) ?_
      refine rw_p rfl rfl (y_assign rfl) ?_
      refine rw_done ?_
      refine gn_sq ?_
      refine HW_ret rfl ?_
      refine toR (fin hret rfl (.tmp rfl .nil) .one ?_)
      exact ⟨p_s, cap_s, g_s, b_s, rfl, ha_s, (hm.pick [0] rfl)⟩

set_option maxHeartbeats 3200000 in
theorem r2_with (p : Option Addr) (cap : Nat) (b : List UInt8) (pS pK : Option Addr) (cS cK : Nat) (w0 : World) (hx : Rd w0 p (b.flatMap encB)) (hy : Rd w0 pS (Pl.shI.l.flatMap encW)) (hz : Rd w0 pK (Pl.shK.flatMap encW)) (hl : b.length ≤ 1000000000000) : C Try.prog 50 [.slice p b.length cap, .agg ⟨[.slice pS 8 cS, .slice pK 64 cK]⟩] w0 fun v w' => v = .agg ⟨(Pl.sha b).flatMap encB⟩ ∧ Ext No w0 w' := by
  have hpl := (Pl.shPad_len b.length).1
  have hpl2 := (Pl.shPad_len b.length).2
  have hml : (b ++ Pl.shPad b.length).length = b.length + (Pl.shPad b.length).length := List.length_append
  refine C_of Try.func50 rfl rfl rfl fun κ hret hnorm => ?_
  have hm := Mem.start w0
  refine HW_seq rfl ?_
  refine HW_text (.act 0 (.act 1 .done)) (by kernel_rfl) ?_
  refine a_box rfl rfl rfl rfl hm trivial fun m1 w hg_m1 hm hh => ?_
  refine a_alloc rfl rfl z62 hm trivial fun m2 w hg_m2 hm hh => ?_
  refine rw_done ?_
  refine gn_sq ?_
  refine HW_seq rfl ?_
  refine HW_text (.pure 0 (.pure 1 (.pure 2 .done))) (by kernel_rfl) ?_
  refine rw_p rfl rfl (y_fieldAddr rfl fo107_0) ?_
  refine rw_p rfl rfl (y_load rfl sc105 (hm.nt 1 rfl) rfl) ?_
  refine rw_p rfl rfl (y_assign rfl) ?_
  refine rw_done ?_
  refine gn_sq ?_
  refine HW_seq rfl ?_
  refine HW_text (.pure 0 (.act 1 (.pure 2 .done))) (by kernel_rfl) ?_
  refine rw_p rfl rfl (y_move rfl) ?_
  refine a_call rfl rfl rfl go65 (r2_pad p cap b _ (hx.ext0 hm.to) hl) fun v w hR => ?_
  obtain ⟨p_m, cap_m, g_m, b_m, rfl, ha_m, hmc⟩ := hR
  refine ⟨trivial, ?_⟩
  replace hm := hm.callN hmc
  have hmle := ha_m.le
  have hmr := ha_m.rd hm 0 rfl
  refine rw_p rfl rfl (y_assign rfl) ?_
  refine rw_done ?_
  refine gn_sq ?_
  refine HW_seq rfl ?_
  refine HW_seq rfl ?_
  refine HW_text (.pure 0 .done) (by kernel_rfl) ?_
  refine rw_p rfl rfl (y_assign rfl) ?_
  refine rw_done ?_
  refine gn_sq ?_
  refine HW_block rfl ?_
  refine HW_loopK (ι := Nat × Option Addr × Nat) rfl (ks := [3, 4, 6]) (.cons rfl (.cons rfl (.cons rfl .nil))) (fun x => [(7, .int .i64 ((64 * x.1 : Nat) : Int)), (5, .slice x.2.1 8 x.2.2)]) (fun x w => (∃ g_s b_s, Mem w0 w No [(g_s, b_s), (g_m, b_m), (m1, .row 107 [.slice pS 8 cS, .slice pK 64 cK]), (m2, .row 62 ((List.replicate 32 (0 : UInt8)).flatMap encB))] ∧ (0 < x.1 → Acc 115 1 x.2.1 8 x.2.2 ((Pl.shFold Pl.shI (b ++ Pl.shPad b.length) x.1).l.flatMap encW) g_s b_s)) ∧ Rd w x.2.1 ((Pl.shFold Pl.shI (b ++ Pl.shPad b.length) x.1).l.flatMap encW) ∧ 64 * x.1 ≤ (b ++ Pl.shPad b.length).length) (fun x => (b ++ Pl.shPad b.length).length - 64 * x.1) (0, pS, cS) (⟨⟨0, .gap, (hm.gapIn.pick [0, 1, 3, 2] rfl), fun h => absurd h (Nat.lt_irrefl 0)⟩, hy.ext0 hm.to, Nat.zero_le _⟩) ⟨rfl, rfl, trivial⟩ (fun x w hM => ?_)
  refine HW_seq rfl ?_
  refine HW_seq rfl ?_
  refine HW_text (.pure 0 (.pure 1 (.pure 2 (.pure 3 .done)))) (by kernel_rfl) ?_
  refine rw_p rfl rfl (y_move rfl) ?_
  refine rw_p rfl rfl (y_move rfl) ?_
  refine rw_p rfl rfl (y_len rfl rfl sl27) ?_
  refine rw_p rfl rfl (y_lt rfl rfl) ?_
  refine rw_done ?_
  refine gn_sq ?_
  refine HW_cond rfl rfl (fun hc0 => ?_) (fun hc0 => ?_)
  ·
    obtain ⟨n, p_s, cap_s⟩ := x
    simp only at hM hc0 ⊢
    obtain ⟨⟨g_s, b_s, hm, hA⟩, hS, hk⟩ := hM
    simp only [decide_eq_true_eq] at hc0
    have hcut : 64 * n + 64 ≤ (b ++ Pl.shPad b.length).length := by omega
    refine HW_skip rfl ?_
    refine gn_sq ?_
    refine HW_seq rfl ?_
    refine HW_block rfl ?_
    refine HW_draw (.pure 0 (.pure 1 (.pure 2 (.pure 3 (.pure 4 (.pure 5 (.pure 7 (.pure 8 (.act 6 (.cut (.act 9 (.pure 10 .done)))))))))))) No mix (by kernel_rfl) hm fun w hw hm0 hh => ?_
    have hm := hm0
    replace hS := hS.heap9 hw
    refine rw_p rfl rfl (y_move rfl) ?_
    refine rw_p rfl rfl (y_move rfl) ?_
    refine rw_p rfl rfl (y_move rfl) ?_
    refine rw_p rfl rfl (y_move rfl) ?_
    refine rw_p rfl rfl (y_add rfl rfl (addK (a := 64 * n) 64 (by omega))) ?_
    refine rw_p rfl rfl (y_v (y_slice (ln := (64 * n)) (hn := (64 * n + 64)) rfl sl27 ⟨_, rfl⟩ ⟨_, rfl⟩ (by omega) (by omega) (fun h => ha_m.spot (by omega))) (show _ = Value.slice (slp p_m cap_m (64 * n) 1) 64 (cap_m - 64 * n) by rw [Nat.add_sub_cancel_left])) ?_
    refine rw_p rfl rfl (y_fieldAddr rfl fo107_1) ?_
    refine rw_p rfl rfl (y_load rfl sc105 (hm0.nd 2 rfl id) rfl) ?_
    refine a_call rfl rfl rfl go67 (r2_sched (slp p_m cap_m (64 * n) 1) (cap_m - 64 * n) (((b ++ Pl.shPad b.length).drop (64 * n)).take 64) _ ((ha_m.rd hm 1 rfl).sub hmle) (by rw [List.length_take, List.length_drop]; omega)) fun v w hR => ?_
    obtain ⟨p_c, cap_c, g_c, b_c, rfl, ha_c, hmc⟩ := hR
    refine ⟨hh.ext hmc.to, ?_⟩
    replace hh := hh.ext hmc.to
    replace hm := hm.callN hmc
    replace hS := hS.ext0 hmc.to
    refine a_cut ?_
    refine a_call rfl rfl rfl go66 (r2_block p_s p_c pK cap_s cap_c cK (Pl.shFold Pl.shI (b ++ Pl.shPad b.length) n) (Pl.schB (((b ++ Pl.shPad b.length).drop (64 * n)).take 64)) _ hS (ha_c.rd hm 0 rfl) (hz.ext0 hm.to) (Pl.schB_len _)) fun v w hR => ?_
    obtain ⟨p_s, cap_s, g_s, b_s, rfl, ha_s, hmc⟩ := hR
    refine ⟨trivial, ?_⟩
    replace hm := hm.callN hmc
    refine rw_p rfl rfl (y_assign rfl) ?_
    refine rw_done ?_
    refine gn_bl ?_
    refine gn_sq ?_
    refine HW_text (.pure 0 (.pure 1 (.pure 2 .done))) (by kernel_rfl) ?_
    refine rw_p rfl rfl (y_move rfl) ?_
    refine rw_p rfl rfl (y_add rfl rfl (addK (a := 64 * n) 64 (by omega))) ?_
    refine rw_p rfl rfl (y_assign rfl) ?_
    refine rw_done ?_
    exact next (n + 1, p_s, cap_s) (by simp only; omega) ⟨⟨g_s, b_s, (hm.pick [0, 3, 4, 5] rfl), fun _ => ha_s⟩, ha_s.rd hm 0 rfl, by simp only; omega⟩ ⟨rfl, rfl, rfl, rfl, rfl, trivial⟩
  ·
    obtain ⟨n, p_s, cap_s⟩ := x
    simp only at hM hc0 ⊢
    obtain ⟨⟨g_s, b_s, hm, hA⟩, hS, hk⟩ := hM
    simp only [decide_eq_false_iff_not] at hc0
    have hpp : 0 < (Pl.shPad b.length).length := by unfold Pl.shPad; simp only [List.length_append, List.length_cons]; omega
    have ha_s := hA (by omega)
    have hne : n = (b ++ Pl.shPad b.length).length / 64 := by omega
    subst hne
    replace ha_s : Acc 115 1 p_s 8 cap_s ((Pl.shSt (b ++ Pl.shPad b.length)).l.flatMap encW) g_s b_s := ha_s
    refine HW_exit rfl ?_
    refine gx_sq (gx_lp ?_)
    refine gx_here ?_
    refine gn_sq ?_
    refine HW_seq rfl ?_
    refine HW_text (.act 0 .done) (by kernel_rfl) ?_
    refine a_alloc rfl rfl z62 hm trivial fun m3 w hg_m3 hm hh => ?_
    refine rw_done ?_
    refine gn_sq ?_
    refine HW_seq rfl ?_
    refine HW_seq rfl ?_
    refine HW_text (.pure 0 .done) (by kernel_rfl) ?_
    refine rw_p rfl rfl (y_assign rfl) ?_
    refine rw_done ?_
    refine gn_sq ?_
    refine HW_block rfl ?_
    refine HW_loopK (ι := Nat) rfl (ks := [4, 5, 8]) (.cons rfl (.cons rfl (.cons rfl .nil))) (fun x => [(9, .int .i64 x)]) (fun x w => Mem w0 w No [(m3, .row 62 (((Pl.sha b).take x ++ List.replicate (32 - x) 0).flatMap encB)), (g_s, b_s), (m2, .row 62 ((List.replicate 32 (0 : UInt8)).flatMap encB))] ∧ x ≤ 32) (fun x => 32 - x) 0 (⟨by rw [List.take_zero, List.nil_append, Nat.sub_zero]; exact (hm.pick [0, 1, 4] rfl), Nat.zero_le _⟩) ⟨rfl, trivial⟩ (fun x w hM => ?_)
    obtain ⟨hm, hk⟩ := hM
    refine HW_seq rfl ?_
    refine HW_seq rfl ?_
    refine HW_text (.pure 0 (.pure 1 .done)) (by kernel_rfl) ?_
    refine rw_p rfl rfl (y_move rfl) ?_
    refine rw_p rfl rfl (y_lt rfl rfl) ?_
    refine rw_done ?_
    refine gn_sq ?_
    refine HW_cond rfl rfl (fun hc1 => ?_) (fun hc1 => ?_)
    ·
      simp only [decide_eq_true_eq] at hc1
      have hog : (Pl.sha b)[x]? = some _ := Pl.shOut_get (Pl.shSt (b ++ Pl.shPad b.length)) (i := x) (by omega)
      have hsi : (Pl.shSt (b ++ Pl.shPad b.length)).l[x / 4]? = some ((Pl.shSt (b ++ Pl.shPad b.length)).l.getD (x / 4) 0) := by rw [List.getD_eq_getElem?_getD, List.getElem?_eq_getElem (show x / 4 < (Pl.shSt (b ++ Pl.shPad b.length)).l.length from (by omega : x / 4 < 8))]; rfl
      refine HW_skip rfl ?_
      refine gn_sq ?_
      refine HW_seq rfl ?_
      refine HW_block rfl ?_
      refine HW_text (.pure 0 (.pure 1 (.pure 2 (.pure 3 (.pure 4 (.pure 5 (.pure 6 (.pure 7 (.pure 8 (.pure 9 (.pure 10 (.pure 11 (.pure 12 (.act 13 .done)))))))))))))) (by kernel_rfl) ?_
      refine rw_p rfl rfl (y_move rfl) ?_
      refine rw_p rfl rfl (y_move rfl) ?_
      refine rw_p rfl rfl (y_move rfl) ?_
      refine rw_p rfl rfl (y_quo rfl rfl (by decide) (quoK x 4 (by omega) (by decide))) ?_
      refine rw_p rfl rfl (y_index rfl rfl sl105 (ha_s.ptr (by decide)) (Int.natCast_nonneg _) (by omega)) ?_
      refine rw_p rfl rfl (y_el1 rfl sc115 ((ha_s.ptr (by decide)) ▸ ha_s.rd hm 1 rfl).nt encW_len hsi rfl) ?_
      refine rw_p rfl rfl (y_move rfl) ?_
      refine rw_p rfl rfl (y_rem rfl rfl (by decide) (remK x 4)) ?_
      refine rw_p rfl rfl (y_mul rfl rfl (mulK 8 (b := x % 4) (by omega))) ?_
      refine rw_p rfl rfl (y_sub rfl rfl (subK (a := 24) _ (by omega) (by decide))) ?_
      refine rw_p rfl rfl (y_shr rfl rfl (Int.natCast_nonneg _) (w_shr (UInt32.ofNat (24 - x % 4 * 8)) (by rw [oN (by omega)]; omega) (by rw [oN (by omega)]; omega))) ?_
      refine rw_p rfl rfl (y_conv rfl is115 it5 w_u8) ?_
      refine rw_p rfl rfl (y_indexP rfl rfl ar62 (Int.natCast_nonneg _) (by omega)) ?_
      refine a_store rfl rfl rfl rfl sz5 rfl hm 0 rfl (by rw [Nat.ble_eq, lenB, List.length_append, List.length_take, List.length_replicate, Pl.sha_len]; simp only [List.length_singleton]; omega) fun w hm => ?_
      have hm2 := hm
      simp only [setB] at hm2
      rw [show (x : Int).toNat = x from rfl, setB0, fill_next (by rw [List.length_take, Pl.sha_len]; omega) (by omega), ← Pl.take_snoc hog] at hm2
      refine rw_done ?_
      refine gn_bl ?_
      refine gn_sq ?_
      refine HW_text (.pure 0 (.pure 1 (.pure 2 .done))) (by kernel_rfl) ?_
      refine rw_p rfl rfl (y_move rfl) ?_
      refine rw_p rfl rfl (y_add rfl rfl (i64w (by omega) (by omega))) ?_
      refine rw_p rfl rfl (y_assign rfl) ?_
      refine rw_done ?_
      refine next (x + 1) (by omega) ⟨hm2, by omega⟩ ⟨nx x, rfl, rfl, rfl, trivial⟩
    ·
      simp only [decide_eq_false_iff_not] at hc1
      obtain rfl : x = 32 := by omega
      rw [Nat.sub_self, List.replicate_zero, List.append_nil, List.take_of_length_le (by rw [Pl.sha_len]; exact Nat.le_refl _)] at hm
      refine HW_exit rfl ?_
      refine gx_sq (gx_lp ?_)
      refine gx_here ?_
      refine gn_sq ?_
      refine HW_seq rfl ?_
      refine HW_text (.pure 0 (.act 1 .done)) (by kernel_rfl) ?_
      refine rw_p rfl rfl (y_loadA (s := 32) (vs := ((Pl.sha b).flatMap encB)) rfl ag62 (hm.nt 0 rfl) (nthsB (Pl.sha_len _))) ?_
      refine a_store rfl rfl rfl rfl (sz62.trans (congrArg some (lenB32 (Pl.sha_len _)).symm)) (oneB _) hm 2 rfl (by rw [Nat.ble_eq, lenB32 (Pl.sha_len _), lenB32 List.length_replicate]; exact Nat.le_refl 32) fun w hm => ?_
      rw [upds_all (by rw [lenB32 (Pl.sha_len _), lenB32 List.length_replicate])] at hm
      refine rw_done ?_
      refine gn_sq ?_
      refine HW_ret rfl ?_
      refine toR (fin hret rfl (.cell rfl (run_loadVar_a (vs := ((Pl.sha b).flatMap encB)) ag62 (hm.get (k := 2) rfl) (nthsB (Pl.sha_len _))) .nil) .one ?_)
      exact ⟨rfl, hm.to⟩

set_option maxHeartbeats 800000 in
theorem r2_of (p : Option Addr) (cap : Nat) (b : List UInt8) (w0 : World) (hx : Rd w0 p (b.flatMap encB)) (hl : b.length ≤ 1000000000000) : C Try.prog 27 [.slice p b.length cap] w0 fun v w' => v = .agg ⟨(Pl.sha b).flatMap encB⟩ ∧ Ext No w0 w' := by
  refine C_of Try.func27 rfl rfl rfl fun κ hret hnorm => ?_
  have hm := Mem.start w0
  refine HW_seq rfl ?_
  refine HW_text (.act 0 .done) (by kernel_rfl) ?_
  refine a_alloc rfl rfl z62 hm trivial fun m1 w hg_m1 hm hh => ?_
  refine rw_done ?_
  refine gn_sq ?_
  refine HW_seq rfl ?_
  refine HW_text (.pure 0 (.act 1 (.act 2 (.act 3 .done)))) (by kernel_rfl) ?_
  refine rw_p rfl rfl (y_move rfl) ?_
  refine a_call rfl rfl rfl go51 (r2_table _) fun v w hR => ?_
  obtain ⟨p_s, cap_s, g_s, b_s, p_q, cap_q, g_q, b_q, rfl, ha_s, ha_q, hmc⟩ := hR
  refine ⟨trivial, ?_⟩
  replace hm := hm.callN hmc
  refine a_call rfl rfl rfl go50 (r2_with p cap b p_s p_q cap_s cap_q _ (hx.ext0 hm.to) (ha_s.rd hm 0 rfl) (ha_q.rd hm 1 rfl) hl) fun v w hR => ?_
  obtain ⟨rfl, hE⟩ := hR
  refine ⟨trivial, ?_⟩
  replace hm := hm.ext hE
  refine a_store rfl rfl rfl rfl (sz62.trans (congrArg some (lenB32 (Pl.sha_len _)).symm)) (oneB _) hm 2 rfl (by rw [Nat.ble_eq, lenB32 (Pl.sha_len _)]; exact Nat.le_refl 32) fun w hm => ?_
  rw [upds_z32 (Pl.sha_len _)] at hm
  refine rw_done ?_
  refine gn_sq ?_
  refine HW_ret rfl ?_
  refine toR (fin hret rfl (.cell rfl (run_loadVar_a (vs := ((Pl.sha b).flatMap encB)) ag62 (hm.get (k := 2) rfl) (nthsB (Pl.sha_len _))) .nil) .one ?_)
  exact ⟨rfl, hm.to⟩

end Go.Proofs.Ytkllojjpaelmhaa
