/- Contracts of functions of the program: what each returns. Conditions: the hypotheses of each theorem. -/
import Derived.Test.YtdiklnekplhhgaaShaD
set_option linter.unusedVariables false
set_option linter.unusedSimpArgs false
namespace Go.Proofs.Ytdiklnekplhhgaa
open Go Go.Cx

theorem ag73 : aggS Try.prog 73 = some 4 := by kernel_rfl
theorem ar73 : arrO Try.prog 73 = some (4, 63, 1) := by kernel_rfl
theorem sc63 : scal Try.prog 63 = true := by kernel_rfl
theorem sz73 : szO Try.prog 73 = some 4 := by kernel_rfl
theorem z73 : zer Try.prog 73 = some [.int .u64 0, .int .u64 0, .int .u64 0, .int .u64 0] := by kernel_rfl
theorem sz63 : szO Try.prog 63 = some 1 := by kernel_rfl

set_option maxHeartbeats 800000 in
theorem r2_scale (a : List Nat) (m : Nat) (w0 : World) (hl : a.length = 4) (ha : ∀ y ∈ a, y < 4294967296) (hmb : m < 1048576) : C Try.prog 44 [.agg ⟨a.flatMap encU⟩, .int .u64 (m : Int)] w0 fun v w' => v = .agg ⟨(Pl.scaleW a m).flatMap encU⟩ ∧ Ext No w0 w' := by
  have hxl : (a.map (· * m)).length = 4 := by rw [List.length_map, hl]
  have hbd : ∀ y ∈ (a.map (· * m)), y ≤ 4503599627370496 := fun y hy => by obtain ⟨z, hz, rfl⟩ := List.mem_map.1 hy; have := ha z hz; exact Nat.le_trans (Nat.mul_le_mul (Nat.le_of_lt this) (Nat.le_of_lt hmb)) (by decide)
  refine C_of Try.func44 rfl rfl rfl fun κ hret hnorm => ?_
  have hm := Mem.start w0
  refine HW_seq rfl ?_
  refine HW_text (.act 0 (.act 1 .done)) (by kernel_rfl) ?_
  refine a_box rfl rfl rfl rfl hm trivial fun m1 w hg_m1 hm hh => ?_
  refine a_alloc rfl rfl z73 hm trivial fun m2 w hg_m2 hm hh => ?_
  refine rw_done ?_
  refine gn_sq ?_
  refine HW_seq rfl ?_
  refine HW_text (.pure 0 .done) (by kernel_rfl) ?_
  refine rw_p rfl rfl (y_assign rfl) ?_
  refine rw_done ?_
  refine gn_sq ?_
  refine HW_seq rfl ?_
  refine HW_text (.act 0 .done) (by kernel_rfl) ?_
  refine a_alloc rfl rfl z73 hm trivial fun m3 w hg_m3 hm hh => ?_
  refine rw_done ?_
  refine gn_sq ?_
  refine HW_seq rfl ?_
  refine HW_seq rfl ?_
  refine HW_text (.pure 0 .done) (by kernel_rfl) ?_
  refine rw_p rfl rfl (y_assign rfl) ?_
  refine rw_done ?_
  refine gn_sq ?_
  refine HW_block rfl ?_
  refine HW_loopK (ι := Nat) rfl (ks := [1, 2, 4, 6]) (.cons rfl (.cons rfl (.cons rfl (.cons rfl .nil)))) (fun x => [(7, .int .i64 x), (5, .int .u64 (Pl.carC ((a.map (· * m)).take x) 0))]) (fun x w => Mem w0 w No [(m3, .row 73 ((Pl.carL ((a.map (· * m)).take x) 0 ++ List.replicate (4 - x) 0).flatMap encU)), (m2, .row 73 [.int .u64 0, .int .u64 0, .int .u64 0, .int .u64 0]), (m1, .row 73 (a.flatMap encU))] ∧ x ≤ 4) (fun x => 4 - x) 0 (⟨hm, Nat.zero_le _⟩) ⟨rfl, rfl, trivial⟩ (fun x w hM => ?_)
  obtain ⟨hm, hk⟩ := hM
  refine HW_seq rfl ?_
  refine HW_seq rfl ?_
  refine HW_text (.pure 0 (.pure 1 .done)) (by kernel_rfl) ?_
  refine rw_p rfl rfl (y_move rfl) ?_
  refine rw_p rfl rfl (y_lt rfl rfl) ?_
  refine rw_done ?_
  refine gn_sq ?_
  refine HW_cond rfl rfl (fun hc0 => ?_) (fun hc0 => ?_)
  ·
    simp only [decide_eq_true_eq] at hc0
    obtain ⟨c, hi⟩ : ∃ y_, a[x]? = some y_ := ⟨_, List.getElem?_eq_getElem (by omega)⟩
    have hca := ha c (List.mem_of_getElem? hi)
    have hcm : c * m ≤ 4503599627370496 := hbd _ (List.mem_map.2 ⟨c, List.mem_of_getElem? hi, rfl⟩)
    have hnx : (a.map (· * m)).take (x + 1) = (a.map (· * m)).take x ++ [(c * m)] := Pl.take_snoc (by rw [List.getElem?_map, hi]; rfl)
    have hcar : Pl.carC ((a.map (· * m)).take x) 0 ≤ 4503599627370496 := Pl.carC_le _ _ (fun y hy => hbd y (List.mem_of_mem_take hy)) (by decide)
    refine HW_skip rfl ?_
    refine gn_sq ?_
    refine HW_seq rfl ?_
    refine HW_block rfl ?_
    refine HW_seq rfl ?_
    refine HW_text (.pure 0 (.pure 1 (.pure 2 (.pure 3 (.pure 4 (.pure 5 (.pure 6 (.pure 7 .done)))))))) (by kernel_rfl) ?_
    refine rw_p rfl rfl (y_move rfl) ?_
    refine rw_p rfl rfl (y_indexP rfl rfl ar73 (Int.natCast_nonneg _) (by omega)) ?_
    refine rw_p rfl rfl (y_load rfl sc63 (hm.nt 2 rfl) (getU hi)) ?_
    refine rw_p rfl rfl (y_move rfl) ?_
    refine rw_p rfl rfl (y_mul rfl rfl (u_mul (by omega))) ?_
    refine rw_p rfl rfl (y_move rfl) ?_
    refine rw_p rfl rfl (y_add rfl rfl (u_add (by omega))) ?_
    refine rw_p rfl rfl (y_assign rfl) ?_
    refine rw_done ?_
    refine gn_sq ?_
    refine HW_seq rfl ?_
    refine HW_text (.pure 0 (.pure 1 (.pure 2 (.pure 3 (.act 4 .done))))) (by kernel_rfl) ?_
    refine rw_p rfl rfl (y_move rfl) ?_
    refine rw_p rfl rfl (y_move rfl) ?_
    refine rw_p rfl rfl (y_and_ rfl rfl (u_and (k := 32) (by omega) 4294967295 rfl (by decide))) ?_
    refine rw_p rfl rfl (y_indexP rfl rfl ar73 (Int.natCast_nonneg _) (by omega)) ?_
    refine a_store rfl rfl rfl rfl sz63 rfl hm 0 rfl (by rw [Nat.ble_eq, lenU, List.length_append, Pl.carL_len, List.length_take, hxl, List.length_replicate]; simp only [List.length_singleton]; omega) fun w hm => ?_
    have hm2 : Mem w0 w No [(m3, .row 73 (upds ((Pl.carL ((a.map (· * m)).take x) 0 ++ List.replicate (4 - x) 0).flatMap encU) (0 + x * 1) [.int .u64 ((((c * m) + Pl.carC ((a.map (· * m)).take x) 0) % Pl.wB : Nat) : Int)])), (m2, .row 73 [.int .u64 0, .int .u64 0, .int .u64 0, .int .u64 0]), (m1, .row 73 (a.flatMap encU))] := hm
    rw [setU, fill_next (by rw [Pl.carL_len, List.length_take, hxl]; omega) (by omega), ← Pl.carL_app, ← hnx] at hm2
    refine rw_done ?_
    refine gn_sq ?_
    refine HW_text (.pure 0 (.pure 1 (.pure 2 .done))) (by kernel_rfl) ?_
    refine rw_p rfl rfl (y_move rfl) ?_
    refine rw_p rfl rfl (y_shr rfl rfl (by decide) (u_shr (k := 32) rfl (by decide))) ?_
    refine rw_p rfl rfl (y_assign rfl) ?_
    refine rw_done ?_
    refine gn_bl ?_
    refine gn_sq ?_
    refine HW_text (.pure 0 (.pure 1 (.pure 2 .done))) (by kernel_rfl) ?_
    refine rw_p rfl rfl (y_move rfl) ?_
    refine rw_p rfl rfl (y_add rfl rfl (i64w (by omega) (by omega))) ?_
    refine rw_p rfl rfl (y_assign rfl) ?_
    refine rw_done ?_
    refine next (x + 1) (by omega) ⟨hm2, by omega⟩ ⟨nx x, by rw [hnx, Pl.carC_app]; rfl, rfl, rfl, rfl, rfl, trivial⟩
  ·
    simp only [decide_eq_false_iff_not] at hc0
    obtain rfl : x = 4 := by omega
    rw [List.take_of_length_le (by rw [hxl]; exact Nat.le_refl _), Nat.sub_self, List.replicate_zero, List.append_nil] at hm
    refine HW_exit rfl ?_
    refine gx_sq (gx_lp ?_)
    refine gx_here ?_
    refine gn_sq ?_
    refine HW_seq rfl ?_
    refine HW_text (.pure 0 (.act 1 .done)) (by kernel_rfl) ?_
    refine rw_p rfl rfl (y_loadA (s := 4) (vs := ((Pl.carL (a.map (· * m)) 0).flatMap encU)) rfl ag73 (hm.nt 0 rfl) (nthsU (show (Pl.carL (a.map (· * m)) 0).length = 4 by rw [Pl.carL_len, hxl]))) ?_
    refine a_store rfl rfl rfl rfl (sz73.trans (congrArg some (lenU4 (show (Pl.carL (a.map (· * m)) 0).length = 4 by rw [Pl.carL_len, hxl])).symm)) (oneU _) hm 1 rfl (by rw [Nat.ble_eq, lenU4 (show (Pl.carL (a.map (· * m)) 0).length = 4 by rw [Pl.carL_len, hxl])]; exact Nat.le_refl 4) fun w hm => ?_
    rw [upds_z4 (show (Pl.carL (a.map (· * m)) 0).length = 4 by rw [Pl.carL_len, hxl])] at hm
    refine rw_done ?_
    refine gn_sq ?_
    refine HW_ret rfl ?_
    refine toR (fin hret rfl (.cell rfl (run_loadVar_a (vs := ((Pl.carL (a.map (· * m)) 0).flatMap encU)) ag73 (hm.get (k := 1) rfl) (nthsU (show (Pl.carL (a.map (· * m)) 0).length = 4 by rw [Pl.carL_len, hxl]))) .nil) .one ?_)
    exact ⟨rfl, hm.to⟩

set_option maxHeartbeats 800000 in
theorem r2_shift (a : List Nat) (w0 : World) (hl : a.length = 4) (ha : ∀ y ∈ a, y < 4294967296) : C Try.prog 45 [.agg ⟨a.flatMap encU⟩] w0 fun v w' => v = .agg ⟨(Pl.scaleW a 65536).flatMap encU⟩ ∧ Ext No w0 w' := by
  have hxl : (a.map (· * 65536)).length = 4 := by rw [List.length_map, hl]
  have hbd : ∀ y ∈ (a.map (· * 65536)), y ≤ 4503599627370496 := fun y hy => by obtain ⟨z, hz, rfl⟩ := List.mem_map.1 hy; have := ha z hz; show z * 65536 ≤ _; omega
  refine C_of Try.func45 rfl rfl rfl fun κ hret hnorm => ?_
  have hm := Mem.start w0
  refine HW_seq rfl ?_
  refine HW_text (.act 0 (.act 1 .done)) (by kernel_rfl) ?_
  refine a_box rfl rfl rfl rfl hm trivial fun m1 w hg_m1 hm hh => ?_
  refine a_alloc rfl rfl z73 hm trivial fun m2 w hg_m2 hm hh => ?_
  refine rw_done ?_
  refine gn_sq ?_
  refine HW_seq rfl ?_
  refine HW_text (.pure 0 .done) (by kernel_rfl) ?_
  refine rw_p rfl rfl (y_assign rfl) ?_
  refine rw_done ?_
  refine gn_sq ?_
  refine HW_seq rfl ?_
  refine HW_text (.act 0 .done) (by kernel_rfl) ?_
  refine a_alloc rfl rfl z73 hm trivial fun m3 w hg_m3 hm hh => ?_
  refine rw_done ?_
  refine gn_sq ?_
  refine HW_seq rfl ?_
  refine HW_seq rfl ?_
  refine HW_text (.pure 0 .done) (by kernel_rfl) ?_
  refine rw_p rfl rfl (y_assign rfl) ?_
  refine rw_done ?_
  refine gn_sq ?_
  refine HW_block rfl ?_
  refine HW_loopK (ι := Nat) rfl (ks := [1, 2, 4]) (.cons rfl (.cons rfl (.cons rfl .nil))) (fun x => [(5, .int .i64 x), (3, .int .u64 (Pl.carC ((a.map (· * 65536)).take x) 0))]) (fun x w => Mem w0 w No [(m3, .row 73 ((Pl.carL ((a.map (· * 65536)).take x) 0 ++ List.replicate (4 - x) 0).flatMap encU)), (m2, .row 73 [.int .u64 0, .int .u64 0, .int .u64 0, .int .u64 0]), (m1, .row 73 (a.flatMap encU))] ∧ x ≤ 4) (fun x => 4 - x) 0 (⟨hm, Nat.zero_le _⟩) ⟨rfl, rfl, trivial⟩ (fun x w hM => ?_)
  obtain ⟨hm, hk⟩ := hM
  refine HW_seq rfl ?_
  refine HW_seq rfl ?_
  refine HW_text (.pure 0 (.pure 1 .done)) (by kernel_rfl) ?_
  refine rw_p rfl rfl (y_move rfl) ?_
  refine rw_p rfl rfl (y_lt rfl rfl) ?_
  refine rw_done ?_
  refine gn_sq ?_
  refine HW_cond rfl rfl (fun hc0 => ?_) (fun hc0 => ?_)
  ·
    simp only [decide_eq_true_eq] at hc0
    obtain ⟨c, hi⟩ : ∃ y_, a[x]? = some y_ := ⟨_, List.getElem?_eq_getElem (by omega)⟩
    have hca := ha c (List.mem_of_getElem? hi)
    have hnx : (a.map (· * 65536)).take (x + 1) = (a.map (· * 65536)).take x ++ [(c * 65536)] := Pl.take_snoc (by rw [List.getElem?_map, hi]; rfl)
    have hcar : Pl.carC ((a.map (· * 65536)).take x) 0 ≤ 4503599627370496 := Pl.carC_le _ _ (fun y hy => hbd y (List.mem_of_mem_take hy)) (by decide)
    refine HW_skip rfl ?_
    refine gn_sq ?_
    refine HW_seq rfl ?_
    refine HW_block rfl ?_
    refine HW_seq rfl ?_
    refine HW_text (.pure 0 (.pure 1 (.pure 2 (.pure 3 (.pure 4 (.pure 5 (.pure 6 .done))))))) (by kernel_rfl) ?_
    refine rw_p rfl rfl (y_move rfl) ?_
    refine rw_p rfl rfl (y_indexP rfl rfl ar73 (Int.natCast_nonneg _) (by omega)) ?_
    refine rw_p rfl rfl (y_load rfl sc63 (hm.nt 2 rfl) (getU hi)) ?_
    refine rw_p rfl rfl (y_shl rfl rfl (by decide) (u_shl (k := 16) rfl (by decide) (by omega))) ?_
    refine rw_p rfl rfl (y_move rfl) ?_
    refine rw_p rfl rfl (y_add rfl rfl (u_add (by omega))) ?_
    refine rw_p rfl rfl (y_assign rfl) ?_
    refine rw_done ?_
    refine gn_sq ?_
    refine HW_seq rfl ?_
    refine HW_text (.pure 0 (.pure 1 (.pure 2 (.pure 3 (.act 4 .done))))) (by kernel_rfl) ?_
    refine rw_p rfl rfl (y_move rfl) ?_
    refine rw_p rfl rfl (y_move rfl) ?_
    refine rw_p rfl rfl (y_and_ rfl rfl (u_and (k := 32) (by omega) 4294967295 rfl (by decide))) ?_
    refine rw_p rfl rfl (y_indexP rfl rfl ar73 (Int.natCast_nonneg _) (by omega)) ?_
    refine a_store rfl rfl rfl rfl sz63 rfl hm 0 rfl (by rw [Nat.ble_eq, lenU, List.length_append, Pl.carL_len, List.length_take, hxl, List.length_replicate]; simp only [List.length_singleton]; omega) fun w hm => ?_
    have hm2 : Mem w0 w No [(m3, .row 73 (upds ((Pl.carL ((a.map (· * 65536)).take x) 0 ++ List.replicate (4 - x) 0).flatMap encU) (0 + x * 1) [.int .u64 ((((c * 65536) + Pl.carC ((a.map (· * 65536)).take x) 0) % Pl.wB : Nat) : Int)])), (m2, .row 73 [.int .u64 0, .int .u64 0, .int .u64 0, .int .u64 0]), (m1, .row 73 (a.flatMap encU))] := hm
    rw [setU, fill_next (by rw [Pl.carL_len, List.length_take, hxl]; omega) (by omega), ← Pl.carL_app, ← hnx] at hm2
    refine rw_done ?_
    refine gn_sq ?_
    refine HW_text (.pure 0 (.pure 1 (.pure 2 .done))) (by kernel_rfl) ?_
    refine rw_p rfl rfl (y_move rfl) ?_
    refine rw_p rfl rfl (y_shr rfl rfl (by decide) (u_shr (k := 32) rfl (by decide))) ?_
    refine rw_p rfl rfl (y_assign rfl) ?_
    refine rw_done ?_
    refine gn_bl ?_
    refine gn_sq ?_
    refine HW_text (.pure 0 (.pure 1 (.pure 2 .done))) (by kernel_rfl) ?_
    refine rw_p rfl rfl (y_move rfl) ?_
    refine rw_p rfl rfl (y_add rfl rfl (i64w (by omega) (by omega))) ?_
    refine rw_p rfl rfl (y_assign rfl) ?_
    refine rw_done ?_
    refine next (x + 1) (by omega) ⟨hm2, by omega⟩ ⟨nx x, by rw [hnx, Pl.carC_app]; rfl, rfl, rfl, rfl, trivial⟩
  ·
    simp only [decide_eq_false_iff_not] at hc0
    obtain rfl : x = 4 := by omega
    rw [List.take_of_length_le (by rw [hxl]; exact Nat.le_refl _), Nat.sub_self, List.replicate_zero, List.append_nil] at hm
    refine HW_exit rfl ?_
    refine gx_sq (gx_lp ?_)
    refine gx_here ?_
    refine gn_sq ?_
    refine HW_seq rfl ?_
    refine HW_text (.pure 0 (.act 1 .done)) (by kernel_rfl) ?_
    refine rw_p rfl rfl (y_loadA (s := 4) (vs := ((Pl.carL (a.map (· * 65536)) 0).flatMap encU)) rfl ag73 (hm.nt 0 rfl) (nthsU (show (Pl.carL (a.map (· * 65536)) 0).length = 4 by rw [Pl.carL_len, hxl]))) ?_
    refine a_store rfl rfl rfl rfl (sz73.trans (congrArg some (lenU4 (show (Pl.carL (a.map (· * 65536)) 0).length = 4 by rw [Pl.carL_len, hxl])).symm)) (oneU _) hm 1 rfl (by rw [Nat.ble_eq, lenU4 (show (Pl.carL (a.map (· * 65536)) 0).length = 4 by rw [Pl.carL_len, hxl])]; exact Nat.le_refl 4) fun w hm => ?_
    rw [upds_z4 (show (Pl.carL (a.map (· * 65536)) 0).length = 4 by rw [Pl.carL_len, hxl])] at hm
    refine rw_done ?_
    refine gn_sq ?_
    refine HW_ret rfl ?_
    refine toR (fin hret rfl (.cell rfl (run_loadVar_a (vs := ((Pl.carL (a.map (· * 65536)) 0).flatMap encU)) ag73 (hm.get (k := 1) rfl) (nthsU (show (Pl.carL (a.map (· * 65536)) 0).length = 4 by rw [Pl.carL_len, hxl]))) .nil) .one ?_)
    exact ⟨rfl, hm.to⟩

set_option maxHeartbeats 800000 in
theorem r2_plus (a b : List Nat) (w0 : World) (hl : a.length = 4) (ha : ∀ y ∈ a, y < 4294967296) (hl2 : b.length = 4) (hb : ∀ y ∈ b, y < 4294967296) : C Try.prog 43 [.agg ⟨a.flatMap encU⟩, .agg ⟨b.flatMap encU⟩] w0 fun v w' => v = .agg ⟨(Pl.plusW a b).flatMap encU⟩ ∧ Ext No w0 w' := by
  have hxl : (Pl.addL a b).length = 4 := by rw [Pl.addL_len (by rw [hl, hl2]), hl]
  have hbd : ∀ y ∈ (Pl.addL a b), y ≤ 4503599627370496 := fun y hy => by
    obtain ⟨i, hi⟩ := List.mem_iff_getElem?.1 hy
    have hil := (List.getElem?_eq_some_iff.1 hi).1
    obtain ⟨c, h1⟩ : ∃ y_, a[i]? = some y_ := ⟨_, List.getElem?_eq_getElem (by omega)⟩
    obtain ⟨d, h2⟩ : ∃ y_, b[i]? = some y_ := ⟨_, List.getElem?_eq_getElem (by omega)⟩
    rw [Pl.addL_get h1 h2] at hi
    have := ha c (List.mem_of_getElem? h1)
    have := hb d (List.mem_of_getElem? h2)
    cases hi
    omega
  refine C_of Try.func43 rfl rfl rfl fun κ hret hnorm => ?_
  have hm := Mem.start w0
  refine HW_seq rfl ?_
  refine HW_text (.act 0 (.act 1 (.act 2 .done))) (by kernel_rfl) ?_
  refine a_box rfl rfl rfl rfl hm trivial fun m1 w hg_m1 hm hh => ?_
  refine a_box rfl rfl rfl rfl hm trivial fun m2 w hg_m2 hm hh => ?_
  refine a_alloc rfl rfl z73 hm trivial fun m3 w hg_m3 hm hh => ?_
  refine rw_done ?_
  refine gn_sq ?_
  refine HW_seq rfl ?_
  refine HW_text (.pure 0 .done) (by kernel_rfl) ?_
  refine rw_p rfl rfl (y_assign rfl) ?_
  refine rw_done ?_
  refine gn_sq ?_
  refine HW_seq rfl ?_
  refine HW_text (.act 0 .done) (by kernel_rfl) ?_
  refine a_alloc rfl rfl z73 hm trivial fun m4 w hg_m4 hm hh => ?_
  refine rw_done ?_
  refine gn_sq ?_
  refine HW_seq rfl ?_
  refine HW_seq rfl ?_
  refine HW_text (.pure 0 .done) (by kernel_rfl) ?_
  refine rw_p rfl rfl (y_assign rfl) ?_
  refine rw_done ?_
  refine gn_sq ?_
  refine HW_block rfl ?_
  refine HW_loopK (ι := Nat) rfl (ks := [2, 3, 4, 6]) (.cons rfl (.cons rfl (.cons rfl (.cons rfl .nil)))) (fun x => [(7, .int .i64 x), (5, .int .u64 (Pl.carC ((Pl.addL a b).take x) 0))]) (fun x w => Mem w0 w No [(m4, .row 73 ((Pl.carL ((Pl.addL a b).take x) 0 ++ List.replicate (4 - x) 0).flatMap encU)), (m3, .row 73 [.int .u64 0, .int .u64 0, .int .u64 0, .int .u64 0]), (m2, .row 73 (b.flatMap encU)), (m1, .row 73 (a.flatMap encU))] ∧ x ≤ 4) (fun x => 4 - x) 0 (⟨hm, Nat.zero_le _⟩) ⟨rfl, rfl, trivial⟩ (fun x w hM => ?_)
  obtain ⟨hm, hk⟩ := hM
  refine HW_seq rfl ?_
  refine HW_seq rfl ?_
  refine HW_text (.pure 0 (.pure 1 .done)) (by kernel_rfl) ?_
  refine rw_p rfl rfl (y_move rfl) ?_
  refine rw_p rfl rfl (y_lt rfl rfl) ?_
  refine rw_done ?_
  refine gn_sq ?_
  refine HW_cond rfl rfl (fun hc0 => ?_) (fun hc0 => ?_)
  ·
    simp only [decide_eq_true_eq] at hc0
    obtain ⟨c, hi⟩ : ∃ y_, a[x]? = some y_ := ⟨_, List.getElem?_eq_getElem (by omega)⟩
    have hca := ha c (List.mem_of_getElem? hi)
    obtain ⟨d, hj⟩ : ∃ y_, b[x]? = some y_ := ⟨_, List.getElem?_eq_getElem (by omega)⟩
    have hdb := hb d (List.mem_of_getElem? hj)
    have hnx : (Pl.addL a b).take (x + 1) = (Pl.addL a b).take x ++ [(c + d)] := Pl.take_snoc (Pl.addL_get hi hj)
    have hcar : Pl.carC ((Pl.addL a b).take x) 0 ≤ 4503599627370496 := Pl.carC_le _ _ (fun y hy => hbd y (List.mem_of_mem_take hy)) (by decide)
    refine HW_skip rfl ?_
    refine gn_sq ?_
    refine HW_seq rfl ?_
    refine HW_block rfl ?_
    refine HW_seq rfl ?_
    refine HW_draw (.pure 0 (.pure 1 (.pure 2 (.pure 3 (.pure 4 (.pure 5 (.pure 6 (.pure 7 (.pure 8 (.pure 9 .done)))))))))) No mix (by kernel_rfl) hm fun w hw hm0 hh => ?_
    have hm := hm0
    refine rw_p rfl rfl (y_move rfl) ?_
    refine rw_p rfl rfl (y_indexP rfl rfl ar73 (Int.natCast_nonneg _) (by omega)) ?_
    refine rw_p rfl rfl (y_load rfl sc63 (hm0.nd 3 rfl id) (getU hi)) ?_
    refine rw_p rfl rfl (y_move rfl) ?_
    refine rw_p rfl rfl (y_indexP rfl rfl ar73 (Int.natCast_nonneg _) (by omega)) ?_
    refine rw_p rfl rfl (y_load rfl sc63 (hm0.nd 2 rfl id) (getU hj)) ?_
    refine rw_p rfl rfl (y_add rfl rfl (u_add (by omega))) ?_
    refine rw_p rfl rfl (y_move rfl) ?_
    refine rw_p rfl rfl (y_add rfl rfl (u_add (by omega))) ?_
    refine rw_p rfl rfl (y_assign rfl) ?_
    refine rw_done ?_
    refine gn_sq ?_
    refine HW_seq rfl ?_
    refine HW_text (.pure 0 (.pure 1 (.pure 2 (.pure 3 (.act 4 .done))))) (by kernel_rfl) ?_
    refine rw_p rfl rfl (y_move rfl) ?_
    refine rw_p rfl rfl (y_move rfl) ?_
    refine rw_p rfl rfl (y_and_ rfl rfl (u_and (k := 32) (by omega) 4294967295 rfl (by decide))) ?_
    refine rw_p rfl rfl (y_indexP rfl rfl ar73 (Int.natCast_nonneg _) (by omega)) ?_
    refine a_store rfl rfl rfl rfl sz63 rfl hm 0 rfl (by rw [Nat.ble_eq, lenU, List.length_append, Pl.carL_len, List.length_take, hxl, List.length_replicate]; simp only [List.length_singleton]; omega) fun w hm => ?_
    have hm2 : Mem w0 w No [(m4, .row 73 (upds ((Pl.carL ((Pl.addL a b).take x) 0 ++ List.replicate (4 - x) 0).flatMap encU) (0 + x * 1) [.int .u64 ((((c + d) + Pl.carC ((Pl.addL a b).take x) 0) % Pl.wB : Nat) : Int)])), (m3, .row 73 [.int .u64 0, .int .u64 0, .int .u64 0, .int .u64 0]), (m2, .row 73 (b.flatMap encU)), (m1, .row 73 (a.flatMap encU))] := hm
    rw [setU, fill_next (by rw [Pl.carL_len, List.length_take, hxl]; omega) (by omega), ← Pl.carL_app, ← hnx] at hm2
    refine rw_done ?_
    refine gn_sq ?_
    refine HW_text (.pure 0 (.pure 1 (.pure 2 .done))) (by kernel_rfl) ?_
    refine rw_p rfl rfl (y_move rfl) ?_
    refine rw_p rfl rfl (y_shr rfl rfl (by decide) (u_shr (k := 32) rfl (by decide))) ?_
    refine rw_p rfl rfl (y_assign rfl) ?_
    refine rw_done ?_
    refine gn_bl ?_
    refine gn_sq ?_
    refine HW_text (.pure 0 (.pure 1 (.pure 2 .done))) (by kernel_rfl) ?_
    refine rw_p rfl rfl (y_move rfl) ?_
    refine rw_p rfl rfl (y_add rfl rfl (i64w (by omega) (by omega))) ?_
    refine rw_p rfl rfl (y_assign rfl) ?_
    refine rw_done ?_
    refine next (x + 1) (by omega) ⟨hm2, by omega⟩ ⟨nx x, by rw [hnx, Pl.carC_app]; rfl, rfl, rfl, rfl, rfl, trivial⟩
  ·
    simp only [decide_eq_false_iff_not] at hc0
    obtain rfl : x = 4 := by omega
    rw [List.take_of_length_le (by rw [hxl]; exact Nat.le_refl _), Nat.sub_self, List.replicate_zero, List.append_nil] at hm
    refine HW_exit rfl ?_
    refine gx_sq (gx_lp ?_)
    refine gx_here ?_
    refine gn_sq ?_
    refine HW_seq rfl ?_
    refine HW_text (.pure 0 (.act 1 .done)) (by kernel_rfl) ?_
    refine rw_p rfl rfl (y_loadA (s := 4) (vs := ((Pl.carL (Pl.addL a b) 0).flatMap encU)) rfl ag73 (hm.nt 0 rfl) (nthsU (show (Pl.carL (Pl.addL a b) 0).length = 4 by rw [Pl.carL_len, hxl]))) ?_
    refine a_store rfl rfl rfl rfl (sz73.trans (congrArg some (lenU4 (show (Pl.carL (Pl.addL a b) 0).length = 4 by rw [Pl.carL_len, hxl])).symm)) (oneU _) hm 1 rfl (by rw [Nat.ble_eq, lenU4 (show (Pl.carL (Pl.addL a b) 0).length = 4 by rw [Pl.carL_len, hxl])]; exact Nat.le_refl 4) fun w hm => ?_
    rw [upds_z4 (show (Pl.carL (Pl.addL a b) 0).length = 4 by rw [Pl.carL_len, hxl])] at hm
    refine rw_done ?_
    refine gn_sq ?_
    refine HW_ret rfl ?_
    refine toR (fin hret rfl (.cell rfl (run_loadVar_a (vs := ((Pl.carL (Pl.addL a b) 0).flatMap encU)) ag73 (hm.get (k := 1) rfl) (nthsU (show (Pl.carL (Pl.addL a b) 0).length = 4 by rw [Pl.carL_len, hxl]))) .nil) .one ?_)
    exact ⟨rfl, hm.to⟩

end Go.Proofs.Ytdiklnekplhhgaa
