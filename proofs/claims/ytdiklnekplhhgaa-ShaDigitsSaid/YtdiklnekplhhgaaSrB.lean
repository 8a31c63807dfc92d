/- Contracts of functions of the program: what each returns. Conditions: the hypotheses of each theorem. -/
import Derived.Test.YtdiklnekplhhgaaSrA
set_option linter.unusedVariables false
set_option linter.unusedSimpArgs false
namespace Go.Proofs.Ytdiklnekplhhgaa
open Go Go.Cx

theorem go43 : isGo Try.prog 43 = true := by kernel_rfl
theorem go44 : isGo Try.prog 44 = true := by kernel_rfl
theorem go45 : isGo Try.prog 45 = true := by kernel_rfl
theorem ft73 : fldT Try.prog 73 = some [(0, 1), (1, 1), (2, 1), (3, 1)] := by kernel_rfl
theorem go42 : isGo Try.prog 42 = true := by kernel_rfl
theorem go41 : isGo Try.prog 41 = true := by kernel_rfl

set_option maxHeartbeats 800000 in
theorem r2_times (a : List Nat) (m : Nat) (w0 : World) (hl : a.length = 4) (ha : ∀ y ∈ a, y < 4294967296) (hmb : m < 68719476736) : C Try.prog 42 [.agg ⟨a.flatMap encU⟩, .int .u64 (m : Int)] w0 fun v w' => v = .agg ⟨(Pl.timesW a m).flatMap encU⟩ ∧ Ext No w0 w' := by
  refine C_of Try.func42 rfl rfl rfl fun κ hret hnorm => ?_
  have hm := Mem.start w0
  refine HW_seq rfl ?_
  refine HW_text (.act 0 (.act 1 .done)) (by kernel_rfl) ?_
  refine a_box rfl rfl rfl rfl hm trivial fun m1 w hg_m1 hm hh => ?_
  refine a_alloc rfl rfl z73 hm trivial fun m2 w hg_m2 hm hh => ?_
  refine rw_done ?_
  refine gn_sq ?_
  refine HW_seq rfl ?_
  refine HW_text (.pure 0 (.pure 1 (.pure 2 .done))) (by kernel_rfl) ?_
  refine rw_p rfl rfl (y_move rfl) ?_
  refine rw_p rfl rfl (y_and_ rfl rfl (u_and (k := 16) (by omega) 65535 rfl (by decide))) ?_
  refine rw_p rfl rfl (y_assign rfl) ?_
  refine rw_done ?_
  refine gn_sq ?_
  refine HW_seq rfl ?_
  refine HW_text (.pure 0 (.pure 1 (.pure 2 .done))) (by kernel_rfl) ?_
  refine rw_p rfl rfl (y_move rfl) ?_
  refine rw_p rfl rfl (y_shr rfl rfl (by decide) (u_shr (k := 16) rfl (by decide))) ?_
  refine rw_p rfl rfl (y_assign rfl) ?_
  refine rw_done ?_
  refine gn_sq ?_
  refine HW_seq rfl ?_
  refine HW_draw (.pure 0 (.pure 1 (.pure 3 (.pure 4 (.act 2 (.cut (.act 5 (.act 6 (.act 7 (.act 8 .done)))))))))) No mix (by kernel_rfl) hm fun w hw hm0 hh => ?_
  have hm := hm0
  refine rw_p rfl rfl (y_loadA (s := 4) (vs := (a.flatMap encU)) rfl ag73 (hm0.nd 1 rfl id) (nthsU hl)) ?_
  refine rw_p rfl rfl (y_move rfl) ?_
  refine rw_p rfl rfl (y_loadA (s := 4) (vs := (a.flatMap encU)) rfl ag73 (hm0.nd 1 rfl id) (nthsU hl)) ?_
  refine rw_p rfl rfl (y_move rfl) ?_
  refine a_call rfl rfl rfl go44 (r2_scale a (m % 65536) _ hl ha (by omega)) fun v w hR => ?_
  obtain ⟨rfl, hE⟩ := hR
  refine ⟨hh.ext hE, ?_⟩
  replace hm := hm.ext hE
  replace hh := hh.ext hE
  refine a_cut ?_
  refine a_call rfl rfl rfl go44 (r2_scale a (m / 65536) _ hl ha (by omega)) fun v w hR => ?_
  obtain ⟨rfl, hE⟩ := hR
  refine ⟨trivial, ?_⟩
  replace hm := hm.ext hE
  refine a_call rfl rfl rfl go45 (r2_shift (Pl.scaleW a (m / 65536)) _ (by rw [Pl.scaleW_len, hl]) (Pl.carL_lt _ _)) fun v w hR => ?_
  obtain ⟨rfl, hE⟩ := hR
  refine ⟨trivial, ?_⟩
  replace hm := hm.ext hE
  refine a_call rfl rfl rfl go43 (C.as (v := .agg ⟨(Pl.timesW a m).flatMap encU⟩) (r2_plus (Pl.scaleW a (m % 65536)) (Pl.scaleW (Pl.scaleW a (m / 65536)) 65536) _ (by rw [Pl.scaleW_len, hl]) (Pl.carL_lt _ _) (by rw [Pl.scaleW_len, Pl.scaleW_len, hl]) (Pl.carL_lt _ _)) rfl) fun v w hR => ?_
  obtain ⟨rfl, hE⟩ := hR
  refine ⟨trivial, ?_⟩
  replace hm := hm.ext hE
  refine a_store rfl rfl rfl rfl (sz73.trans (congrArg some (lenU4 (Pl.timesW_len (m := m) hl)).symm)) (oneU _) hm 0 rfl (by rw [Nat.ble_eq, lenU4 (Pl.timesW_len (m := m) hl)]; exact Nat.le_refl 4) fun w hm => ?_
  rw [upds_z4 (Pl.timesW_len (m := m) hl)] at hm
  refine rw_done ?_
  refine gn_sq ?_
  refine HW_ret rfl ?_
  refine toR (fin hret rfl (.cell rfl (run_loadVar_a (vs := ((Pl.timesW a m).flatMap encU)) ag73 (hm.get (k := 0) rfl) (nthsU (Pl.timesW_len hl))) .nil) .one ?_)
  exact ⟨rfl, hm.to⟩

set_option maxHeartbeats 1600000 in
theorem r2_least (m n : Nat) (cubes : Bool) (w0 : World) (hmb : m < 68719476736) (hn : n < 4294967296) : C Try.prog 41 [.int .u64 (m : Int), .int .u64 (n : Int), .bool cubes] w0 fun v w' => v = .bool (Pl.rootOk n cubes m) ∧ Ext No w0 w' := by
  have hl0 : ([m % 4294967296, m / 4294967296, 0, 0] : List Nat).length = 4 := rfl
  have hv0 : Pl.valW [m % 4294967296, m / 4294967296, 0, 0] = m := by simp only [Pl.valW, Pl.wB]; omega
  have ha0 : ∀ y ∈ ([m % 4294967296, m / 4294967296, 0, 0] : List Nat), y < 4294967296 := by intro y hy; simp only [List.mem_cons, List.not_mem_nil, or_false] at hy; omega
  have hmm : m * m < 4722366482869645213696 := Nat.lt_of_le_of_lt (Nat.mul_le_mul (Nat.le_of_lt_succ hmb) (Nat.le_of_lt_succ hmb)) (by decide)
  have hmmm : m * m * m ≤ 4722366482869645213696 * 68719476735 := Nat.mul_le_mul (Nat.le_of_lt hmm) (Nat.le_of_lt_succ hmb)
  have hv1 : Pl.valW (Pl.timesW [m % 4294967296, m / 4294967296, 0, 0] m) = m * m := by rw [Pl.timesW_val hl0 (by rw [hv0]; exact Nat.lt_of_lt_of_le hmm (by decide)), hv0]
  have hl1 : (Pl.timesW [m % 4294967296, m / 4294967296, 0, 0] m).length = 4 := Pl.timesW_len hl0
  have hv2 : Pl.valW (Pl.timesW (Pl.timesW [m % 4294967296, m / 4294967296, 0, 0] m) m) = m * m * m := by rw [Pl.timesW_val hl1 (by rw [hv1]; exact Nat.lt_of_le_of_lt hmmm (by decide)), hv1]
  have hl2 : (Pl.timesW (Pl.timesW [m % 4294967296, m / 4294967296, 0, 0] m) m).length = 4 := Pl.timesW_len hl1
  obtain ⟨A, hA⟩ : ∃ l, (bif cubes then Pl.timesW (Pl.timesW [m % 4294967296, m / 4294967296, 0, 0] m) m else Pl.timesW [m % 4294967296, m / 4294967296, 0, 0] m) = l := ⟨_, rfl⟩
  obtain ⟨B, hB⟩ : ∃ l, ((bif cubes then [0, 0, 0, n] else [0, 0, n, 0]) : List Nat) = l := ⟨_, rfl⟩
  have hAl : A.length = 4 := by
    rw [← hA]
    cases cubes
    · exact hl1
    · exact hl2
  have hBl : B.length = 4 := by rw [← hB]; cases cubes <;> rfl
  have hAv : Pl.valW A = Pl.powN m cubes := by
    rw [← hA]
    cases cubes
    · exact hv1
    · exact hv2
  have hBv : Pl.valW B = Pl.topN n cubes := by rw [← hB]; cases cubes <;> simp only [cond_true, cond_false, Pl.valW, Pl.topN, Pl.wB] <;> omega
  have hAt : ∀ y ∈ A, y < Pl.wB := by rw [← hA]; cases cubes <;> exact Pl.timesW_lt
  have hBt : ∀ y ∈ B, y < Pl.wB := by rw [← hB]; cases cubes <;> (intro y hy; simp only [cond_true, cond_false, List.mem_cons, List.not_mem_nil, or_false] at hy; simp only [Pl.wB]; omega)
  refine C_of Try.func41 rfl rfl rfl fun κ hret hnorm => ?_
  have hm := Mem.start w0
  refine HW_seq rfl ?_
  refine HW_text (.pure 0 .done) (by kernel_rfl) ?_
  refine rw_p rfl rfl (y_assign rfl) ?_
  refine rw_done ?_
  refine gn_sq ?_
  refine HW_seq rfl ?_
  refine HW_text (.pure 0 (.pure 1 (.pure 2 (.pure 3 (.pure 4 (.pure 5 (.act 6 (.act 7 (.act 8 .done))))))))) (by kernel_rfl) ?_
  refine rw_p rfl rfl (y_move rfl) ?_
  refine rw_p rfl rfl (y_and_ rfl rfl (u_and (k := 32) (by omega) 4294967295 rfl (by decide))) ?_
  refine rw_p rfl rfl (y_move rfl) ?_
  refine rw_p rfl rfl (y_shr rfl rfl (by decide) (u_shr (k := 32) rfl (by decide))) ?_
  refine rw_p rfl rfl (y_build (cs := [_, _, _, _]) z73 ft73 rfl rfl rfl rfl rfl) ?_
  refine rw_p rfl rfl (y_move rfl) ?_
  refine a_call rfl rfl rfl go42 (r2_times [m % 4294967296, m / 4294967296, 0, 0] m _ hl0 ha0 hmb) fun v w hR => ?_
  obtain ⟨rfl, hE⟩ := hR
  refine ⟨trivial, ?_⟩
  replace hm := hm.ext hE
  refine a_alloc rfl rfl z73 hm trivial fun m1 w hg_m1 hm hh => ?_
  refine a_store rfl rfl rfl rfl (sz73.trans (congrArg some (lenU4 hl1).symm)) (oneU _) hm 0 rfl (by rw [Nat.ble_eq, lenU4 hl1]; exact Nat.le_refl 4) fun w hm => ?_
  rw [upds_z4 hl1] at hm
  refine rw_done ?_
  refine gn_sq ?_
  refine HW_seq rfl ?_
  refine HW_text (.pure 0 (.pure 1 (.act 2 (.act 3 .done)))) (by kernel_rfl) ?_
  refine rw_p rfl rfl (y_move rfl) ?_
  refine rw_p rfl rfl (y_build (cs := [_, _, _, _]) z73 ft73 rfl rfl rfl rfl rfl) ?_
  refine a_alloc rfl rfl z73 hm trivial fun m2 w hg_m2 hm hh => ?_
  refine a_store rfl rfl rfl rfl sz73 rfl hm 0 rfl rfl fun w hm => ?_
  refine rw_done ?_
  refine gn_sq ?_
  refine HW_via (ι := Unit) rfl (ks := [0, 1, 2, 6, 7, 8]) (.cons rfl (.cons rfl (.cons rfl (.cons rfl (.cons rfl (.cons rfl .nil)))))) (fun u9 => []) (fun u9 w => Mem w0 w No [(m2, .row 73 (B.flatMap encU)), (m1, .row 73 (A.flatMap encU))]) ?_ (fun u9 w hM => ?_)
  ·
    refine HW_seq rfl ?_
    refine HW_text (.pure 0 .done) (by kernel_rfl) ?_
    refine rw_p rfl rfl (y_move rfl) ?_
    refine rw_done ?_
    refine gn_sq ?_
    refine HW_cond rfl rfl (fun hc0 => ?_) (fun hc0 => ?_)
    ·
      subst hc0
      simp only [cond_true] at hA hB
      subst hA hB
      refine HW_seq rfl ?_
      refine HW_text (.pure 0 (.pure 1 (.act 2 (.act 3 .done)))) (by kernel_rfl) ?_
      refine rw_p rfl rfl (y_loadA (s := 4) (vs := ((Pl.timesW [m % 4294967296, m / 4294967296, 0, 0] m).flatMap encU)) rfl ag73 (hm.nt 1 rfl) (nthsU hl1)) ?_
      refine rw_p rfl rfl (y_move rfl) ?_
      refine a_call rfl rfl rfl go42 (r2_times (Pl.timesW [m % 4294967296, m / 4294967296, 0, 0] m) m _ hl1 Pl.timesW_lt hmb) fun v w hR => ?_
      obtain ⟨rfl, hE⟩ := hR
      refine ⟨trivial, ?_⟩
      replace hm := hm.ext hE
      refine a_store rfl rfl rfl rfl (sz73.trans (congrArg some (lenU4 hl2).symm)) (oneU _) hm 1 rfl (by rw [Nat.ble_eq, lenU4 hl2, lenU4 hl1]; exact Nat.le_refl 4) fun w hm => ?_
      rw [upds_U hl2 hl1] at hm
      refine rw_done ?_
      refine gn_sq ?_
      refine HW_text (.pure 0 (.pure 1 (.act 2 .done))) (by kernel_rfl) ?_
      refine rw_p rfl rfl (y_move rfl) ?_
      refine rw_p rfl rfl (y_build (cs := [_, _, _, _]) z73 ft73 rfl rfl rfl rfl rfl) ?_
      refine a_store rfl rfl rfl rfl sz73 rfl hm 0 rfl rfl fun w hm => ?_
      refine rw_done ?_
      exact gn_vi () hm ⟨rfl, rfl, rfl, rfl, rfl, rfl, trivial⟩
    ·
      subst hc0
      simp only [cond_false] at hA hB
      subst hA hB
      refine HW_skip rfl ?_
      exact gn_vi () hm ⟨rfl, rfl, rfl, rfl, rfl, rfl, trivial⟩
  ·
    have hm := hM
    refine HW_seq rfl ?_
    refine HW_seq rfl ?_
    refine HW_text (.pure 0 .done) (by kernel_rfl) ?_
    refine rw_p rfl rfl (y_assign rfl) ?_
    refine rw_done ?_
    refine gn_sq ?_
    refine HW_block rfl ?_
    refine HW_loopK (ι := Nat) rfl (ks := [7, 8]) (.cons rfl (.cons rfl .nil)) (fun y => [(9, .int .i64 (3 - (y : Int)))]) (fun y w => Mem w0 w No [(m2, .row 73 (B.flatMap encU)), (m1, .row 73 (A.flatMap encU))] ∧ y ≤ 4 ∧ ∀ j, 4 ≤ j + y → A.getD j 0 = B.getD j 0) (fun y => 4 - y) 0 (⟨hm, Nat.zero_le _, fun j hj => by rw [List.getD_eq_getElem?_getD, List.getD_eq_getElem?_getD, List.getElem?_eq_none (by omega), List.getElem?_eq_none (by omega)]⟩) ⟨rfl, trivial⟩ (fun y w hM => ?_)
    obtain ⟨hm, hk, hup⟩ := hM
    refine HW_seq rfl ?_
    refine HW_seq rfl ?_
    refine HW_text (.pure 0 (.pure 1 .done)) (by kernel_rfl) ?_
    refine rw_p rfl rfl (y_move rfl) ?_
    refine rw_p rfl rfl (y_ge rfl rfl) ?_
    refine rw_done ?_
    refine gn_sq ?_
    refine HW_cond rfl rfl (fun hc1 => ?_) (fun hc1 => ?_)
    ·
      simp only [decide_eq_true_eq] at hc1
      have hiy : (3 - (y : Int)).toNat = 3 - y := by omega
      have hAi : A[(3 - (y : Int)).toNat]? = some (A.getD (3 - y) 0) := by rw [hiy, List.getD_eq_getElem?_getD, List.getElem?_eq_getElem (by omega)]; rfl
      have hBi : B[(3 - (y : Int)).toNat]? = some (B.getD (3 - y) 0) := by rw [hiy, List.getD_eq_getElem?_getD, List.getElem?_eq_getElem (by omega)]; rfl
      refine HW_skip rfl ?_
      refine gn_sq ?_
      refine HW_seq rfl ?_
      refine HW_block rfl ?_
      refine HW_seq rfl ?_
      refine HW_draw (.pure 0 (.pure 1 (.pure 2 (.pure 3 (.pure 4 (.pure 5 (.pure 6 .done))))))) No mix (by kernel_rfl) hm fun w hw hm0 hh => ?_
      have hm := hm0
      refine rw_p rfl rfl (y_move rfl) ?_
      refine rw_p rfl rfl (y_indexP rfl rfl ar73 (by omega) (by omega)) ?_
      refine rw_p rfl rfl (y_load rfl sc63 (hm0.nd 1 rfl id) (getU hAi)) ?_
      refine rw_p rfl rfl (y_move rfl) ?_
      refine rw_p rfl rfl (y_indexP rfl rfl ar73 (by omega) (by omega)) ?_
      refine rw_p rfl rfl (y_load rfl sc63 (hm0.nd 0 rfl id) (getU hBi)) ?_
      refine rw_p rfl rfl (y_ne rfl rfl) ?_
      refine rw_done ?_
      refine gn_sq ?_
      refine HW_cond rfl rfl (fun hc2 => ?_) (fun hc2 => ?_)
      ·
        simp only [decide_eq_true_eq] at hc2
        have hcm := Pl.cmpW hAl hBl hAt hBt (i := 3 - y) (by omega) (fun j hj => hup j (by omega)) (by omega)
        rw [hAv, hBv] at hcm
        refine HW_seq rfl ?_
        refine HW_draw (.pure 0 (.pure 1 (.pure 2 (.pure 3 (.pure 4 (.pure 5 (.pure 6 (.pure 7 .done)))))))) No mix (by kernel_rfl) hm fun w hw hm0 hh => ?_
        have hm := hm0
        refine rw_p rfl rfl (y_move rfl) ?_
        refine rw_p rfl rfl (y_indexP rfl rfl ar73 (by omega) (by omega)) ?_
        refine rw_p rfl rfl (y_load rfl sc63 (hm0.nd 1 rfl id) (getU hAi)) ?_
        refine rw_p rfl rfl (y_move rfl) ?_
        refine rw_p rfl rfl (y_indexP rfl rfl ar73 (by omega) (by omega)) ?_
        refine rw_p rfl rfl (y_load rfl sc63 (hm0.nd 0 rfl id) (getU hBi)) ?_
        refine rw_p rfl rfl (y_lt rfl rfl) ?_
        refine rw_p rfl rfl (y_assign rfl) ?_
        refine rw_done ?_
        refine gn_sq ?_
        refine HW_ret rfl ?_
        refine gr_bl (gr_sq (gr_lp (gr_bl (gr_sq ?_))))
        refine toR (fin hret rfl (.tmp rfl .nil) .one ?_)
        exact ⟨congrArg Value.bool (by unfold Pl.rootOk; rw [Bool.eq_iff_iff, Nat.ble_eq, decide_eq_true_eq, ← hcm]; omega), hm.to⟩
      ·
        simp only [decide_eq_false_iff_not, Decidable.not_not] at hc2
        refine HW_skip rfl ?_
        refine gn_bl ?_
        refine gn_sq ?_
        refine HW_text (.pure 0 (.pure 1 (.pure 2 .done))) (by kernel_rfl) ?_
        refine rw_p rfl rfl (y_move rfl) ?_
        refine rw_p rfl rfl (y_sub rfl rfl (i64w (by omega) (by omega))) ?_
        refine rw_p rfl rfl (y_assign rfl) ?_
        refine rw_done ?_
        refine next (y + 1) (by omega) ⟨hm, by omega, fun j hj => ?_⟩ ⟨congrArg (fun z => some (Value.int .i64 z)) (show (3 : Int) - (y : Int) - 1 = 3 - ((y + 1 : Nat) : Int) by omega), rfl, rfl, trivial⟩
        rcases Nat.lt_or_ge j (4 - y) with h | h
        · obtain rfl : j = 3 - y := by omega
          omega
        · exact hup j (by omega)
    ·
      simp only [decide_eq_false_iff_not] at hc1
      have hyy : y = 4 := by omega
      refine HW_exit rfl ?_
      refine gx_sq (gx_lp ?_)
      refine gx_here ?_
      refine gn_sq ?_
      refine HW_seq rfl ?_
      refine HW_text (.pure 0 .done) (by kernel_rfl) ?_
      refine rw_p rfl rfl (y_assign rfl) ?_
      refine rw_done ?_
      refine gn_sq ?_
      refine HW_ret rfl ?_
      refine toR (fin hret rfl (.tmp rfl .nil) .one ?_)
      have hle := Pl.eqW hAl hBl (fun j => hup j (by omega))
      rw [hAv, hBv] at hle
      exact ⟨congrArg Value.bool (show true = _ by unfold Pl.rootOk; rw [eq_comm, Nat.ble_eq]; exact hle), hm.to⟩

set_option maxHeartbeats 400000 in
theorem r2_root (n : Nat) (cubes : Bool) (w0 : World) (hn : n < 4294967296) (hg : Pl.rootGood n cubes = true) (h0 : Pl.rootOk n cubes (bif cubes then 34359738368 else 68719476736) = false) : C Try.prog 38 [.int .u64 (n : Int), .bool cubes] w0 fun v w' => v = .int .u32 ((Pl.rootW n cubes).toNat : Int) ∧ Ext No w0 w' := by
  refine C_of Try.func38 rfl rfl rfl fun κ hret hnorm => ?_
  have hm := Mem.start w0
  refine HW_seq rfl ?_
  refine HW_text (.pure 0 .done) (by kernel_rfl) ?_
  refine rw_p rfl rfl (y_assign rfl) ?_
  refine rw_done ?_
  refine gn_sq ?_
  refine HW_seq rfl ?_
  refine HW_text (.pure 0 .done) (by kernel_rfl) ?_
  refine rw_p rfl rfl (y_assign rfl) ?_
  refine rw_done ?_
  refine gn_sq ?_
  refine HW_seq rfl ?_
  refine HW_text (.pure 0 .done) (by kernel_rfl) ?_
  refine rw_p rfl rfl (y_assign rfl) ?_
  refine rw_done ?_
  refine gn_sq ?_
  refine HW_via (ι := Unit) rfl (ks := [0, 1, 4, 5]) (.cons rfl (.cons rfl (.cons rfl (.cons rfl .nil)))) (fun u9 => [(6, .int .u64 (((bif cubes then 34359738368 else 68719476736 : Nat) : Nat) : Int))]) (fun u9 w => Mem w0 w No []) ?_ (fun u9 w hM => ?_)
  ·
    refine HW_seq rfl ?_
    refine HW_text (.pure 0 .done) (by kernel_rfl) ?_
    refine rw_p rfl rfl (y_move rfl) ?_
    refine rw_done ?_
    refine gn_sq ?_
    refine HW_cond rfl rfl (fun hc0 => ?_) (fun hc0 => ?_)
    ·
      subst hc0
      refine HW_text (.pure 0 .done) (by kernel_rfl) ?_
      refine rw_p rfl rfl (y_assign rfl) ?_
      refine rw_done ?_
      exact gn_vi () hm ⟨rfl, rfl, rfl, rfl, rfl, trivial⟩
    ·
      subst hc0
      refine HW_skip rfl ?_
      exact gn_vi () hm ⟨rfl, rfl, rfl, rfl, rfl, trivial⟩
  ·
    have hm := hM
    have hhi : (bif cubes then 34359738368 else 68719476736 : Nat) ≤ 68719476736 ∧ 0 < (bif cubes then 34359738368 else 68719476736 : Nat) := by cases cubes <;> decide
    refine HW_seq rfl ?_
    refine HW_block rfl ?_
    refine HW_loopK (ι := Nat × Nat) rfl (ks := [0, 1, 4]) (.cons rfl (.cons rfl (.cons rfl .nil))) (fun x => [(5, .int .u64 (x.1 : Int)), (6, .int .u64 (x.2 : Int))]) (fun x w => Mem w0 w No [] ∧ Pl.rootOk n cubes x.1 = true ∧ Pl.rootOk n cubes x.2 = false ∧ x.1 < x.2 ∧ x.2 ≤ 68719476736) (fun x => x.2 - x.1) (0, (bif cubes then 34359738368 else 68719476736 : Nat)) (⟨hm, by cases cubes <;> simp [Pl.rootOk, Pl.powN], h0, hhi.2, hhi.1⟩) ⟨rfl, rfl, trivial⟩ (fun x w hM => ?_)
    obtain ⟨hm, h1, h2, h3, h4⟩ := hM
    refine HW_seq rfl ?_
    refine HW_seq rfl ?_
    refine HW_text (.pure 0 (.pure 1 (.pure 2 (.pure 3 .done)))) (by kernel_rfl) ?_
    refine rw_p rfl rfl (y_move rfl) ?_
    refine rw_p rfl rfl (y_move rfl) ?_
    refine rw_p rfl rfl (y_sub rfl rfl (u_sub (by omega) (by omega))) ?_
    refine rw_p rfl rfl (y_gt rfl rfl) ?_
    refine rw_done ?_
    refine gn_sq ?_
    refine HW_cond rfl rfl (fun hc1 => ?_) (fun hc1 => ?_)
    ·
      obtain ⟨lo, hi⟩ := x
      simp only at h1 h2 h3 h4 hc1 ⊢
      simp only [decide_eq_true_eq] at hc1
      refine HW_skip rfl ?_
      refine gn_sq ?_
      refine HW_block rfl ?_
      refine HW_seq rfl ?_
      refine HW_text (.pure 0 (.pure 1 (.pure 2 (.pure 3 (.pure 4 .done))))) (by kernel_rfl) ?_
      refine rw_p rfl rfl (y_move rfl) ?_
      refine rw_p rfl rfl (y_move rfl) ?_
      refine rw_p rfl rfl (y_add rfl rfl (u_add (by omega))) ?_
      refine rw_p rfl rfl (y_quo rfl rfl (by decide) ((congrArg IntKind.u64.wrap (tdivN (lo + hi) 2)).trans (u64N.trans (by rw [Nat.mod_eq_of_lt (by omega)])))) ?_
      refine rw_p rfl rfl (y_assign rfl) ?_
      refine rw_done ?_
      refine gn_sq ?_
      refine HW_seq rfl ?_
      refine HW_text (.pure 0 (.pure 1 (.pure 2 (.act 3 .done)))) (by kernel_rfl) ?_
      refine rw_p rfl rfl (y_move rfl) ?_
      refine rw_p rfl rfl (y_move rfl) ?_
      refine rw_p rfl rfl (y_move rfl) ?_
      refine a_call rfl rfl rfl go41 (r2_least ((lo + hi) / 2) n cubes _ (by omega) hn) fun v w hR => ?_
      obtain ⟨rfl, hE⟩ := hR
      refine ⟨trivial, ?_⟩
      replace hm := hm.ext hE
      refine rw_done ?_
      refine gn_sq ?_
      refine HW_cond rfl rfl (fun hc2 => ?_) (fun hc2 => ?_)
      ·
        refine HW_text (.pure 0 (.pure 1 .done)) (by kernel_rfl) ?_
        refine rw_p rfl rfl (y_move rfl) ?_
        refine rw_p rfl rfl (y_assign rfl) ?_
        refine rw_done ?_
        refine gn_bl ?_
        first | exact next ((lo + hi) / 2, hi) (by simp only; omega) ⟨hm, hc2, h2, by simp only; omega, h4⟩ ⟨rfl, rfl, rfl, rfl, rfl, trivial⟩ | exact next (lo, (lo + hi) / 2) (by simp only; omega) ⟨hm, h1, hc2, by simp only; omega, by simp only; omega⟩ ⟨rfl, rfl, rfl, rfl, rfl, trivial⟩
      ·
        refine HW_text (.pure 0 (.pure 1 .done)) (by kernel_rfl) ?_
        refine rw_p rfl rfl (y_move rfl) ?_
        refine rw_p rfl rfl (y_assign rfl) ?_
        refine rw_done ?_
        refine gn_bl ?_
        first | exact next ((lo + hi) / 2, hi) (by simp only; omega) ⟨hm, hc2, h2, by simp only; omega, h4⟩ ⟨rfl, rfl, rfl, rfl, rfl, trivial⟩ | exact next (lo, (lo + hi) / 2) (by simp only; omega) ⟨hm, h1, hc2, by simp only; omega, by simp only; omega⟩ ⟨rfl, rfl, rfl, rfl, rfl, trivial⟩
    ·
      obtain ⟨lo, hi⟩ := x
      simp only at h1 h2 h3 h4 hc1 ⊢
      simp only [decide_eq_false_iff_not] at hc1
      obtain rfl : hi = lo + 1 := by omega
      refine HW_exit rfl ?_
      refine gx_sq (gx_lp ?_)
      refine gx_here ?_
      refine gn_sq ?_
      refine HW_seq rfl ?_
      refine HW_text (.pure 0 (.pure 1 (.pure 2 .done))) (by kernel_rfl) ?_
      refine rw_p rfl rfl (y_move rfl) ?_
      refine rw_p rfl rfl (y_conv rfl is63 it48 (W32N _)) ?_
      refine rw_p rfl rfl (y_assign rfl) ?_
      refine rw_done ?_
      refine gn_sq ?_
      refine HW_ret rfl ?_
      refine toR (fin hret rfl (.tmp rfl .nil) .one ?_)
      exact ⟨by rw [← Pl.root_is hg h1 h2], hm.to⟩

end Go.Proofs.Ytdiklnekplhhgaa
