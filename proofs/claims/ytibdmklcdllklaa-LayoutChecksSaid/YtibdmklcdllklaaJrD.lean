/- Contracts of functions of the program: what each returns. Conditions: the hypotheses of each theorem. -/
import Derived.Test.YtibdmklcdllklaaJr
set_option linter.unusedVariables false
set_option linter.unusedSimpArgs false
namespace Go.Proofs.Ytibdmklcdllklaa
open Go Go.Cx

theorem go44 : isGo Try.prog 44 = true := by kernel_rfl
theorem pb63 : ptrB Try.prog 63 = true := by kernel_rfl
theorem fo28_1 : fldO Try.prog 28 1 = some 1 := by kernel_rfl
theorem go20 : isGo Try.prog 20 = true := by kernel_rfl
theorem go21 : isGo Try.prog 21 = true := by kernel_rfl
theorem iii26 : int2 Try.prog 26 = true := by kernel_rfl

theorem secs_sl {s g N : Nat} (hs : 1 ≤ s) (hN : 1 ≤ N) (hb : (g + N) * s ≤ 4611686018427387903) : Pl.secs (s : Int) ((g * s : Nat) : Int) ((N * s : Nat) : Int) = ((g : Int), (N : Int)) := by
  have h1 : 1 ≤ N * s := Nat.mul_pos (by omega) (by omega)
  have h2 : (g + N) * s = g * s + N * s := Nat.add_mul ..
  have hv : Pl.valid ((g * s : Nat) : Int) ((N * s : Nat) : Int) = true := Pl.valid_mk (by omega)
  have e1 : ((g * s : Nat) : Int) / (s : Int) = (g : Int) := by
    rw [← Int.natCast_ediv, Nat.mul_div_cancel g (by omega)]
  obtain ⟨K, hK⟩ : ∃ K, g + N = K + 1 := ⟨g + N - 1, by omega⟩
  have h3 : (K + 1) * s = K * s + s := Nat.succ_mul K s
  rw [hK] at h2
  have e2 : (((g * s : Nat) : Int) + ((N * s : Nat) : Int) - 1) / (s : Int) = (K : Int) := by
    have h4 : (g * s + N * s - 1) / s = K := Nat.div_eq_of_lt_le (by omega) (by rw [h3]; omega)
    rw [show ((g * s : Nat) : Int) + ((N * s : Nat) : Int) - 1 = ((g * s + N * s - 1 : Nat) : Int) by omega, ← Int.natCast_ediv, h4]
  unfold Pl.secs
  rw [if_neg (by rw [hv]; simp; omega), e1, e2]
  exact Prod.ext rfl (show (K : Int) - g + 1 = N by omega)
theorem join_sl (f N : Nat) : Pl.joined (f : Int) (N : Int) ((f + 1 * N : Nat) : Int) (N : Int) = some ((f : Int), ((2 * N : Nat) : Int)) := by
  have e1 : ¬ (min ((f : Int) + N) (((f + 1 * N : Nat) : Int) + N) - max (f : Int) ((f + 1 * N : Nat) : Int) < 0) := by omega
  have e2 : ¬ (max ((f : Int) + N) (((f + 1 * N : Nat) : Int) + N) - min (f : Int) ((f + 1 * N : Nat) : Int) < 0) := by omega
  unfold Pl.joined Pl.btw
  rw [if_neg e1]
  simp only [Option.isSome_some, if_true]
  rw [if_neg e2]
  exact congrArg some (Prod.ext (by simp only; omega) (by simp only; omega))
theorem zero_mg (k : Nat) (hk : 1 ≤ k) : (Pl.rexpect ((List.replicate k (0 : UInt8)).take 40) ⟨0, 0, 0⟩ [71, 74, 82, 49] 19).2 = false := by
  rw [List.take_replicate]
  obtain ⟨m, hm⟩ : ∃ m, min 40 k = m + 1 := ⟨min 40 k - 1, by omega⟩
  rw [hm]
  unfold Pl.rexpect
  rw [if_neg (by decide), if_pos]
  intro h
  rw [List.length_replicate, show min ([71, 74, 82, 49] : List UInt8).length (m + 1 - (⟨0, 0, 0⟩ : Pl.RS).at_) = min 3 m + 1 by show min 4 (m + 1 - 0) = _; omega] at h
  have h9 := congrArg List.head? h
  simp [List.replicate_succ] at h9
theorem zero_rd (a c f N i : Nat) (h1 : 1 ≤ a) (hN : 1 ≤ N) (h : f + i * N + N ≤ c) (hca : c * a ≤ 1048576) : Pl.rdCode (Pl.nDv a c []) (((f + i * N) * a : Nat) : Int) ((N * a : Nat) : Int) = 0 ∧ (Pl.rexpect ((Pl.rdB (Pl.nDv a c []) (((f + i * N) * a : Nat) : Int) ((N * a : Nat) : Int)).take 40) ⟨0, 0, 0⟩ [71, 74, 82, 49] 19).2 = false := by
  have e1 : (f + i * N + N) * a ≤ c * a := Nat.mul_le_mul_right _ h
  rw [Nat.add_mul _ N] at e1
  have e2 : 1 ≤ N * a := Nat.mul_pos hN h1
  have hon : Pl.onD (Pl.nDv a c []) (((f + i * N) * a : Nat) : Int) ((N * a : Nat) : Int) = true := Pl.onD_iff.2 ⟨by omega, by omega, by omega, show _ ≤ ((c * a : Nat) : Int) by omega⟩
  have hc : Pl.rdCode (Pl.nDv a c []) (((f + i * N) * a : Nat) : Int) ((N * a : Nat) : Int) = 0 := by
    unfold Pl.rdCode
    rw [hon, if_neg (by decide), if_neg (by rintro ⟨_, h⟩; cases h)]
  refine ⟨hc, ?_⟩
  have hb : Pl.rdB (Pl.nDv a c []) (((f + i * N) * a : Nat) : Int) ((N * a : Nat) : Int) = List.replicate (N * a) 0 := by
    unfold Pl.rdB
    rw [if_pos hc, show Pl.contents (Pl.nDv a c []) = List.replicate (c * a) 0 from rfl, List.drop_replicate, List.take_replicate, Int.toNat_natCast, Int.toNat_natCast, Nat.min_eq_left (by omega)]
  rw [hb]
  exact zero_mg _ e2

set_option maxHeartbeats 1600000 in
theorem j_region (D : Pl.Dv) (m : Nat) (Z : List (Nat × Blk)) (w0 : World) (hZ : OwnZ w0 Z) (hz : DevZ 87 133 5 D m Z) (f N : Nat) (b : Int) (hb : Pl.I64 b) (hN : Pl.slot (D.sz : Int) b = (N : Int)) (h0 : N ≠ 0) (h2 : f + 2 * N ≤ D.cnt) (j : Nat) (k : Int) (q : Option Addr) (c : Nat) (hj : w0.heap[j]? = some (Blk.row 94 [.pointer (some ⟨m, 0, none⟩), .int .i64 (f : Int), .int .i64 b, .int .u64 k, .int .u64 1, .int .u64 0, .int .u64 0, .int .i64 0, .int .i64 0, .slice q 0 c, .bool false]).toObj) : C Try.prog 21 [.pointer (some ⟨j, 0, none⟩)] w0 fun v w' => v = .agg ⟨[.int .i64 (f : Int), .int .i64 ((2 * N : Nat) : Int)]⟩ ∧ Ext No w0 w' := by
  have hok := hz.ok
  have o1 := hok.sz
  have o4 := hok.max
  have o3 := hok.cnt
  have o5 : D.cnt ≤ D.cnt * D.sz := Nat.le_mul_of_pos_right _ o1
  have o7 : D.sz ≤ D.cnt * D.sz := Nat.le_mul_of_pos_left _ o3
  have g0 : (f + 0 * N + N) * D.sz ≤ D.cnt * D.sz := Nat.mul_le_mul_right _ (by omega)
  have g1 : (f + 1 * N + N) * D.sz ≤ D.cnt * D.sz := Nat.mul_le_mul_right _ (by omega)
  have g2 := Nat.add_mul (f + 0 * N) N D.sz
  have g3 := Nat.add_mul (f + 1 * N) N D.sz
  refine C_of Try.func21 rfl rfl rfl fun κ hret hnorm => ?_
  have hm := Mem.start w0
  refine HW_seq rfl ?_
  refine HW_text (.act 0 .done) (by kernel_rfl) ?_
  refine a_alloc rfl rfl z26 hm trivial fun m1 w hg_m1 hm hh => ?_
  refine rw_done ?_
  refine gn_sq ?_
  refine HW_seq rfl ?_
  refine HW_seq rfl ?_
  refine HW_text (.pure 0 (.pure 1 .done)) (by kernel_rfl) ?_
  refine rw_p rfl rfl (y_move rfl) ?_
  refine rw_p rfl rfl (y_pnil rfl rfl pb63) ?_
  refine rw_done ?_
  refine gn_sq ?_
  refine HW_condF rfl rfl rfl ?_
  refine HW_skip rfl ?_
  refine gn_sq ?_
  refine HW_seq rfl ?_
  refine HW_draw (.pure 0 (.pure 1 (.pure 2 (.pure 3 (.pure 4 (.pure 6 (.pure 7 (.pure 8 (.pure 9 (.pure 12 (.pure 13 (.pure 14 (.pure 15 (.pure 16 (.pure 18 (.pure 19 (.pure 20 (.pure 21 (.act2 5 (.act2 10 (.act2 11 (.act2 17 (.act2 22 (.act2 23 (.act2 24 (.pure 25 (.pure 26 (.pure 27 (.act 28 (.act 29 (.pure 30 .done)))))) 28 (.act 24 (.pure 25 (.pure 26 (.pure 27 (.act 29 (.pure 30 .done))))))) 28 (.act 23 (.act 24 (.pure 25 (.pure 26 (.pure 27 (.act 29 (.pure 30 .done)))))))) 28 (.act 22 (.act 23 (.act 24 (.pure 25 (.pure 26 (.pure 27 (.act 29 (.pure 30 .done))))))))) 28 (.act 17 (.act 22 (.act 23 (.act 24 (.pure 25 (.pure 26 (.pure 27 (.act 29 (.pure 30 .done)))))))))) 28 (.act 11 (.act 17 (.act 22 (.act 23 (.act 24 (.pure 25 (.pure 26 (.pure 27 (.act 29 (.pure 30 .done))))))))))) 28 (.act 10 (.act 11 (.act 17 (.act 22 (.act 23 (.act 24 (.pure 25 (.pure 26 (.pure 27 (.act 29 (.pure 30 .done)))))))))))) 28 (.act 5 (.act 10 (.act 11 (.act 17 (.act 22 (.act 23 (.act 24 (.pure 25 (.pure 26 (.pure 27 (.act 29 (.pure 30 .done))))))))))))))))))))))))))))))) No mix (by kernel_rfl) hm fun w hw hm0 hh => ?_
  have hm := hm0
  refine rw_p rfl rfl (y_move rfl) ?_
  refine rw_p rfl rfl (y_nil rfl) ?_
  refine rw_p rfl rfl (y_fieldAddr rfl fo94_0) ?_
  refine rw_p rfl rfl (y_fieldAddr rfl fo90_0) ?_
  refine rw_p rfl rfl (y_load rfl sc47 (fun u hu => ((hm0.to.trans hu).same _ (Array.getElem?_eq_some_iff.1 hj).1 id).trans hj) rfl) ?_
  refine rw_p rfl rfl (y_move rfl) ?_
  refine rw_p rfl rfl (y_nil rfl) ?_
  refine rw_p rfl rfl (y_fieldAddr rfl fo94_0) ?_
  refine rw_p rfl rfl (y_loadA (s := 3) (vs := [_, _, _]) rfl ag90 (fun u hu => ((hm0.to.trans hu).same _ (Array.getElem?_eq_some_iff.1 hj).1 id).trans hj) rfl) ?_
  refine rw_p rfl rfl (y_move rfl) ?_
  refine rw_p rfl rfl (y_nil rfl) ?_
  refine rw_p rfl rfl (y_fieldAddr rfl fo94_0) ?_
  refine rw_p rfl rfl (y_fieldAddr rfl fo90_0) ?_
  refine rw_p rfl rfl (y_load rfl sc47 (fun u hu => ((hm0.to.trans hu).same _ (Array.getElem?_eq_some_iff.1 hj).1 id).trans hj) rfl) ?_
  refine rw_p rfl rfl (y_move rfl) ?_
  refine rw_p rfl rfl (y_nil rfl) ?_
  refine rw_p rfl rfl (y_fieldAddr rfl fo94_0) ?_
  refine rw_p rfl rfl (y_loadA (s := 3) (vs := [_, _, _]) rfl ag90 (fun u hu => ((hm0.to.trans hu).same _ (Array.getElem?_eq_some_iff.1 hj).1 id).trans hj) rfl) ?_
  refine a_two ?_ ?_
  ·
    refine a_call rfl rfl rfl go35 (o_size D m Z _ (hZ.ext hm.to) hz) fun v w hR => ?_
    obtain ⟨rfl, hE⟩ := hR
    refine ⟨hh.ext hE, ?_⟩
    replace hm := hm.ext hE
    replace hh := hh.ext hE
    refine a_two ?_ ?_
    ·
      refine a_call rfl rfl rfl go41 (jr_slot D m Z _ (hZ.ext hm.to) hz f N b hb hN 0 (by omega)) fun v w hR => ?_
      obtain ⟨rfl, hE⟩ := hR
      refine ⟨hh.ext hE, ?_⟩
      replace hm := hm.ext hE
      replace hh := hh.ext hE
      refine a_two ?_ ?_
      ·
        refine a_call rfl rfl rfl go24 (C.as (v := .agg ⟨[.int .i64 ((f + 0 * N : Nat) : Int), .int .i64 (N : Int)]⟩) (f_secs (D.sz : Int) (((f + 0 * N) * D.sz : Nat) : Int) ((N * D.sz : Nat) : Int) _ (by simp only [Pl.I64]; omega) (by simp only [Pl.I64]; omega) (by simp only [Pl.I64]; omega)) (by rw [secs_sl o1 (by omega) (by omega)]; rfl)) fun v w hR => ?_
        obtain ⟨rfl, hE⟩ := hR
        refine ⟨hh.ext hE, ?_⟩
        replace hm := hm.ext hE
        replace hh := hh.ext hE
        refine a_two ?_ ?_
        ·
          refine a_call rfl rfl rfl go35 (o_size D m Z _ (hZ.ext hm.to) hz) fun v w hR => ?_
          obtain ⟨rfl, hE⟩ := hR
          refine ⟨hh.ext hE, ?_⟩
          replace hm := hm.ext hE
          replace hh := hh.ext hE
          refine a_two ?_ ?_
          ·
            refine a_call rfl rfl rfl go41 (jr_slot D m Z _ (hZ.ext hm.to) hz f N b hb hN 1 (by omega)) fun v w hR => ?_
            obtain ⟨rfl, hE⟩ := hR
            refine ⟨hh.ext hE, ?_⟩
            replace hm := hm.ext hE
            replace hh := hh.ext hE
            refine a_two ?_ ?_
            ·
              refine a_call rfl rfl rfl go24 (C.as (v := .agg ⟨[.int .i64 ((f + 1 * N : Nat) : Int), .int .i64 (N : Int)]⟩) (f_secs (D.sz : Int) (((f + 1 * N) * D.sz : Nat) : Int) ((N * D.sz : Nat) : Int) _ (by simp only [Pl.I64]; omega) (by simp only [Pl.I64]; omega) (by simp only [Pl.I64]; omega)) (by rw [secs_sl o1 (by omega) (by omega)]; rfl)) fun v w hR => ?_
              obtain ⟨rfl, hE⟩ := hR
              refine ⟨hh.ext hE, ?_⟩
              replace hm := hm.ext hE
              replace hh := hh.ext hE
              refine a_two ?_ ?_
              ·
                refine a_call rfl rfl rfl go44 (C.as (v := .tuple ⟨[.agg ⟨[.int .i64 (f : Int), .int .i64 ((2 * N : Nat) : Int)]⟩, .bool true]⟩) (ext_join ((f + 0 * N : Nat) : Int) (N : Int) ((f + 1 * N : Nat) : Int) (N : Int) _ (by omega) (by omega)) (by rw [show f + 0 * N = f by omega, join_sl]; rfl)) fun v w hR => ?_
                obtain ⟨rfl, hE⟩ := hR
                refine ⟨hh.ext hE, ?_⟩
                replace hm := hm.ext hE
                replace hh := hh.ext hE
                refine rw_p rfl rfl (y_move rfl) ?_
                refine rw_p rfl rfl (y_extract rfl rfl) ?_
                refine rw_p rfl rfl (y_extract rfl rfl) ?_
                refine a_alloc rfl rfl z26 hm hh fun m2 w hg_m2 hm hh => ?_
                refine a_storeN rfl rfl rfl rfl sz26 rfl hm 0 rfl rfl hh (.inl hg_m2) fun w hm hh => ?_
                refine rw_p rfl rfl (y_assign rfl) ?_
                refine rw_done ?_
                refine gn_sq ?_
                refine HW_seq rfl ?_
                refine HW_text (.pure 0 (.act 1 .done)) (by kernel_rfl) ?_
                refine rw_p rfl rfl (y_loadA (s := 2) (vs := [_, _]) rfl ag26 (hm.nt 0 rfl) rfl) ?_
                refine a_store rfl rfl rfl rfl sz26 rfl hm 1 rfl rfl fun w hm => ?_
                refine rw_done ?_
                refine gn_sq ?_
                refine HW_ret rfl ?_
                refine toR (fin hret rfl (.cell rfl (run_loadVar_a (vs := [_, _]) ag26 (hm.get (k := 1) rfl) rfl) .nil) .one ?_)
                exact ⟨rfl, hm.to⟩
              ·
                refine a_alloc rfl rfl z26 hm hh fun m2 w hg_m2 hm hh => ?_
                refine a_call rfl rfl rfl go44 (C.as (v := .tuple ⟨[.agg ⟨[.int .i64 (f : Int), .int .i64 ((2 * N : Nat) : Int)]⟩, .bool true]⟩) (ext_join ((f + 0 * N : Nat) : Int) (N : Int) ((f + 1 * N : Nat) : Int) (N : Int) _ (by omega) (by omega)) (by rw [show f + 0 * N = f by omega, join_sl]; rfl)) fun v w hR => ?_
                obtain ⟨rfl, hE⟩ := hR
                refine ⟨hh.ext hE, ?_⟩
                replace hm := hm.ext hE
                replace hh := hh.ext hE
                refine rw_p rfl rfl (y_move rfl) ?_
                refine rw_p rfl rfl (y_extract rfl rfl) ?_
                refine rw_p rfl rfl (y_extract rfl rfl) ?_
                refine a_storeN rfl rfl rfl rfl sz26 rfl hm 0 rfl rfl hh (.inl hg_m2) fun w hm hh => ?_
                refine rw_p rfl rfl (y_assign rfl) ?_
                refine rw_done ?_
                refine gn_sq ?_
                refine HW_seq rfl ?_
                refine HW_text (.pure 0 (.act 1 .done)) (by kernel_rfl) ?_
                refine rw_p rfl rfl (y_loadA (s := 2) (vs := [_, _]) rfl ag26 (hm.nt 0 rfl) rfl) ?_
                refine a_store rfl rfl rfl rfl sz26 rfl hm 1 rfl rfl fun w hm => ?_
                refine rw_done ?_
                refine gn_sq ?_
                refine HW_ret rfl ?_
                refine toR (fin hret rfl (.cell rfl (run_loadVar_a (vs := [_, _]) ag26 (hm.get (k := 1) rfl) rfl) .nil) .one ?_)
                exact ⟨rfl, hm.to⟩
            ·
              refine a_alloc rfl rfl z26 hm hh fun m2 w hg_m2 hm hh => ?_
              refine a_call rfl rfl rfl go24 (C.as (v := .agg ⟨[.int .i64 ((f + 1 * N : Nat) : Int), .int .i64 (N : Int)]⟩) (f_secs (D.sz : Int) (((f + 1 * N) * D.sz : Nat) : Int) ((N * D.sz : Nat) : Int) _ (by simp only [Pl.I64]; omega) (by simp only [Pl.I64]; omega) (by simp only [Pl.I64]; omega)) (by rw [secs_sl o1 (by omega) (by omega)]; rfl)) fun v w hR => ?_
              obtain ⟨rfl, hE⟩ := hR
              refine ⟨hh.ext hE, ?_⟩
              replace hm := hm.ext hE
              replace hh := hh.ext hE
              refine a_call rfl rfl rfl go44 (C.as (v := .tuple ⟨[.agg ⟨[.int .i64 (f : Int), .int .i64 ((2 * N : Nat) : Int)]⟩, .bool true]⟩) (ext_join ((f + 0 * N : Nat) : Int) (N : Int) ((f + 1 * N : Nat) : Int) (N : Int) _ (by omega) (by omega)) (by rw [show f + 0 * N = f by omega, join_sl]; rfl)) fun v w hR => ?_
              obtain ⟨rfl, hE⟩ := hR
              refine ⟨hh.ext hE, ?_⟩
              replace hm := hm.ext hE
              replace hh := hh.ext hE
              refine rw_p rfl rfl (y_move rfl) ?_
              refine rw_p rfl rfl (y_extract rfl rfl) ?_
              refine rw_p rfl rfl (y_extract rfl rfl) ?_
              refine a_storeN rfl rfl rfl rfl sz26 rfl hm 0 rfl rfl hh (.inl hg_m2) fun w hm hh => ?_
              refine rw_p rfl rfl (y_assign rfl) ?_
              refine rw_done ?_
              refine gn_sq ?_
              refine HW_seq rfl ?_
              refine HW_text (.pure 0 (.act 1 .done)) (by kernel_rfl) ?_
              refine rw_p rfl rfl (y_loadA (s := 2) (vs := [_, _]) rfl ag26 (hm.nt 0 rfl) rfl) ?_
              refine a_store rfl rfl rfl rfl sz26 rfl hm 1 rfl rfl fun w hm => ?_
              refine rw_done ?_
              refine gn_sq ?_
              refine HW_ret rfl ?_
              refine toR (fin hret rfl (.cell rfl (run_loadVar_a (vs := [_, _]) ag26 (hm.get (k := 1) rfl) rfl) .nil) .one ?_)
              exact ⟨rfl, hm.to⟩
          ·
            refine a_alloc rfl rfl z26 hm hh fun m2 w hg_m2 hm hh => ?_
            refine a_call rfl rfl rfl go41 (jr_slot D m Z _ (hZ.ext hm.to) hz f N b hb hN 1 (by omega)) fun v w hR => ?_
            obtain ⟨rfl, hE⟩ := hR
            refine ⟨hh.ext hE, ?_⟩
            replace hm := hm.ext hE
            replace hh := hh.ext hE
            refine a_call rfl rfl rfl go24 (C.as (v := .agg ⟨[.int .i64 ((f + 1 * N : Nat) : Int), .int .i64 (N : Int)]⟩) (f_secs (D.sz : Int) (((f + 1 * N) * D.sz : Nat) : Int) ((N * D.sz : Nat) : Int) _ (by simp only [Pl.I64]; omega) (by simp only [Pl.I64]; omega) (by simp only [Pl.I64]; omega)) (by rw [secs_sl o1 (by omega) (by omega)]; rfl)) fun v w hR => ?_
            obtain ⟨rfl, hE⟩ := hR
            refine ⟨hh.ext hE, ?_⟩
            replace hm := hm.ext hE
            replace hh := hh.ext hE
            refine a_call rfl rfl rfl go44 (C.as (v := .tuple ⟨[.agg ⟨[.int .i64 (f : Int), .int .i64 ((2 * N : Nat) : Int)]⟩, .bool true]⟩) (ext_join ((f + 0 * N : Nat) : Int) (N : Int) ((f + 1 * N : Nat) : Int) (N : Int) _ (by omega) (by omega)) (by rw [show f + 0 * N = f by omega, join_sl]; rfl)) fun v w hR => ?_
            obtain ⟨rfl, hE⟩ := hR
            refine ⟨hh.ext hE, ?_⟩
            replace hm := hm.ext hE
            replace hh := hh.ext hE
            refine rw_p rfl rfl (y_move rfl) ?_
            refine rw_p rfl rfl (y_extract rfl rfl) ?_
            refine rw_p rfl rfl (y_extract rfl rfl) ?_
            refine a_storeN rfl rfl rfl rfl sz26 rfl hm 0 rfl rfl hh (.inl hg_m2) fun w hm hh => ?_
            refine rw_p rfl rfl (y_assign rfl) ?_
            refine rw_done ?_
            refine gn_sq ?_
            refine HW_seq rfl ?_
            refine HW_text (.pure 0 (.act 1 .done)) (by kernel_rfl) ?_
            refine rw_p rfl rfl (y_loadA (s := 2) (vs := [_, _]) rfl ag26 (hm.nt 0 rfl) rfl) ?_
            refine a_store rfl rfl rfl rfl sz26 rfl hm 1 rfl rfl fun w hm => ?_
            refine rw_done ?_
            refine gn_sq ?_
            refine HW_ret rfl ?_
            refine toR (fin hret rfl (.cell rfl (run_loadVar_a (vs := [_, _]) ag26 (hm.get (k := 1) rfl) rfl) .nil) .one ?_)
            exact ⟨rfl, hm.to⟩
        ·
          refine a_alloc rfl rfl z26 hm hh fun m2 w hg_m2 hm hh => ?_
          refine a_call rfl rfl rfl go35 (o_size D m Z _ (hZ.ext hm.to) hz) fun v w hR => ?_
          obtain ⟨rfl, hE⟩ := hR
          refine ⟨hh.ext hE, ?_⟩
          replace hm := hm.ext hE
          replace hh := hh.ext hE
          refine a_call rfl rfl rfl go41 (jr_slot D m Z _ (hZ.ext hm.to) hz f N b hb hN 1 (by omega)) fun v w hR => ?_
          obtain ⟨rfl, hE⟩ := hR
          refine ⟨hh.ext hE, ?_⟩
          replace hm := hm.ext hE
          replace hh := hh.ext hE
          refine a_call rfl rfl rfl go24 (C.as (v := .agg ⟨[.int .i64 ((f + 1 * N : Nat) : Int), .int .i64 (N : Int)]⟩) (f_secs (D.sz : Int) (((f + 1 * N) * D.sz : Nat) : Int) ((N * D.sz : Nat) : Int) _ (by simp only [Pl.I64]; omega) (by simp only [Pl.I64]; omega) (by simp only [Pl.I64]; omega)) (by rw [secs_sl o1 (by omega) (by omega)]; rfl)) fun v w hR => ?_
          obtain ⟨rfl, hE⟩ := hR
          refine ⟨hh.ext hE, ?_⟩
          replace hm := hm.ext hE
          replace hh := hh.ext hE
          refine a_call rfl rfl rfl go44 (C.as (v := .tuple ⟨[.agg ⟨[.int .i64 (f : Int), .int .i64 ((2 * N : Nat) : Int)]⟩, .bool true]⟩) (ext_join ((f + 0 * N : Nat) : Int) (N : Int) ((f + 1 * N : Nat) : Int) (N : Int) _ (by omega) (by omega)) (by rw [show f + 0 * N = f by omega, join_sl]; rfl)) fun v w hR => ?_
          obtain ⟨rfl, hE⟩ := hR
          refine ⟨hh.ext hE, ?_⟩
          replace hm := hm.ext hE
          replace hh := hh.ext hE
          refine rw_p rfl rfl (y_move rfl) ?_
          refine rw_p rfl rfl (y_extract rfl rfl) ?_
          refine rw_p rfl rfl (y_extract rfl rfl) ?_
          refine a_storeN rfl rfl rfl rfl sz26 rfl hm 0 rfl rfl hh (.inl hg_m2) fun w hm hh => ?_
          refine rw_p rfl rfl (y_assign rfl) ?_
          refine rw_done ?_
          refine gn_sq ?_
          refine HW_seq rfl ?_
          refine HW_text (.pure 0 (.act 1 .done)) (by kernel_rfl) ?_
          refine rw_p rfl rfl (y_loadA (s := 2) (vs := [_, _]) rfl ag26 (hm.nt 0 rfl) rfl) ?_
          refine a_store rfl rfl rfl rfl sz26 rfl hm 1 rfl rfl fun w hm => ?_
          refine rw_done ?_
          refine gn_sq ?_
          refine HW_ret rfl ?_
          refine toR (fin hret rfl (.cell rfl (run_loadVar_a (vs := [_, _]) ag26 (hm.get (k := 1) rfl) rfl) .nil) .one ?_)
          exact ⟨rfl, hm.to⟩
      ·
        refine a_alloc rfl rfl z26 hm hh fun m2 w hg_m2 hm hh => ?_
        refine a_call rfl rfl rfl go24 (C.as (v := .agg ⟨[.int .i64 ((f + 0 * N : Nat) : Int), .int .i64 (N : Int)]⟩) (f_secs (D.sz : Int) (((f + 0 * N) * D.sz : Nat) : Int) ((N * D.sz : Nat) : Int) _ (by simp only [Pl.I64]; omega) (by simp only [Pl.I64]; omega) (by simp only [Pl.I64]; omega)) (by rw [secs_sl o1 (by omega) (by omega)]; rfl)) fun v w hR => ?_
        obtain ⟨rfl, hE⟩ := hR
        refine ⟨hh.ext hE, ?_⟩
        replace hm := hm.ext hE
        replace hh := hh.ext hE
        refine a_call rfl rfl rfl go35 (o_size D m Z _ (hZ.ext hm.to) hz) fun v w hR => ?_
        obtain ⟨rfl, hE⟩ := hR
        refine ⟨hh.ext hE, ?_⟩
        replace hm := hm.ext hE
        replace hh := hh.ext hE
        refine a_call rfl rfl rfl go41 (jr_slot D m Z _ (hZ.ext hm.to) hz f N b hb hN 1 (by omega)) fun v w hR => ?_
        obtain ⟨rfl, hE⟩ := hR
        refine ⟨hh.ext hE, ?_⟩
        replace hm := hm.ext hE
        replace hh := hh.ext hE
        refine a_call rfl rfl rfl go24 (C.as (v := .agg ⟨[.int .i64 ((f + 1 * N : Nat) : Int), .int .i64 (N : Int)]⟩) (f_secs (D.sz : Int) (((f + 1 * N) * D.sz : Nat) : Int) ((N * D.sz : Nat) : Int) _ (by simp only [Pl.I64]; omega) (by simp only [Pl.I64]; omega) (by simp only [Pl.I64]; omega)) (by rw [secs_sl o1 (by omega) (by omega)]; rfl)) fun v w hR => ?_
        obtain ⟨rfl, hE⟩ := hR
        refine ⟨hh.ext hE, ?_⟩
        replace hm := hm.ext hE
        replace hh := hh.ext hE
        refine a_call rfl rfl rfl go44 (C.as (v := .tuple ⟨[.agg ⟨[.int .i64 (f : Int), .int .i64 ((2 * N : Nat) : Int)]⟩, .bool true]⟩) (ext_join ((f + 0 * N : Nat) : Int) (N : Int) ((f + 1 * N : Nat) : Int) (N : Int) _ (by omega) (by omega)) (by rw [show f + 0 * N = f by omega, join_sl]; rfl)) fun v w hR => ?_
        obtain ⟨rfl, hE⟩ := hR
        refine ⟨hh.ext hE, ?_⟩
        replace hm := hm.ext hE
        replace hh := hh.ext hE
        refine rw_p rfl rfl (y_move rfl) ?_
        refine rw_p rfl rfl (y_extract rfl rfl) ?_
        refine rw_p rfl rfl (y_extract rfl rfl) ?_
        refine a_storeN rfl rfl rfl rfl sz26 rfl hm 0 rfl rfl hh (.inl hg_m2) fun w hm hh => ?_
        refine rw_p rfl rfl (y_assign rfl) ?_
        refine rw_done ?_
        refine gn_sq ?_
        refine HW_seq rfl ?_
        refine HW_text (.pure 0 (.act 1 .done)) (by kernel_rfl) ?_
        refine rw_p rfl rfl (y_loadA (s := 2) (vs := [_, _]) rfl ag26 (hm.nt 0 rfl) rfl) ?_
        refine a_store rfl rfl rfl rfl sz26 rfl hm 1 rfl rfl fun w hm => ?_
        refine rw_done ?_
        refine gn_sq ?_
        refine HW_ret rfl ?_
        refine toR (fin hret rfl (.cell rfl (run_loadVar_a (vs := [_, _]) ag26 (hm.get (k := 1) rfl) rfl) .nil) .one ?_)
        exact ⟨rfl, hm.to⟩
    ·
      refine a_alloc rfl rfl z26 hm hh fun m2 w hg_m2 hm hh => ?_
      refine a_call rfl rfl rfl go41 (jr_slot D m Z _ (hZ.ext hm.to) hz f N b hb hN 0 (by omega)) fun v w hR => ?_
      obtain ⟨rfl, hE⟩ := hR
      refine ⟨hh.ext hE, ?_⟩
      replace hm := hm.ext hE
      replace hh := hh.ext hE
      refine a_call rfl rfl rfl go24 (C.as (v := .agg ⟨[.int .i64 ((f + 0 * N : Nat) : Int), .int .i64 (N : Int)]⟩) (f_secs (D.sz : Int) (((f + 0 * N) * D.sz : Nat) : Int) ((N * D.sz : Nat) : Int) _ (by simp only [Pl.I64]; omega) (by simp only [Pl.I64]; omega) (by simp only [Pl.I64]; omega)) (by rw [secs_sl o1 (by omega) (by omega)]; rfl)) fun v w hR => ?_
      obtain ⟨rfl, hE⟩ := hR
      refine ⟨hh.ext hE, ?_⟩
      replace hm := hm.ext hE
      replace hh := hh.ext hE
      refine a_call rfl rfl rfl go35 (o_size D m Z _ (hZ.ext hm.to) hz) fun v w hR => ?_
      obtain ⟨rfl, hE⟩ := hR
      refine ⟨hh.ext hE, ?_⟩
      replace hm := hm.ext hE
      replace hh := hh.ext hE
      refine a_call rfl rfl rfl go41 (jr_slot D m Z _ (hZ.ext hm.to) hz f N b hb hN 1 (by omega)) fun v w hR => ?_
      obtain ⟨rfl, hE⟩ := hR
      refine ⟨hh.ext hE, ?_⟩
      replace hm := hm.ext hE
      replace hh := hh.ext hE
      refine a_call rfl rfl rfl go24 (C.as (v := .agg ⟨[.int .i64 ((f + 1 * N : Nat) : Int), .int .i64 (N : Int)]⟩) (f_secs (D.sz : Int) (((f + 1 * N) * D.sz : Nat) : Int) ((N * D.sz : Nat) : Int) _ (by simp only [Pl.I64]; omega) (by simp only [Pl.I64]; omega) (by simp only [Pl.I64]; omega)) (by rw [secs_sl o1 (by omega) (by omega)]; rfl)) fun v w hR => ?_
      obtain ⟨rfl, hE⟩ := hR
      refine ⟨hh.ext hE, ?_⟩
      replace hm := hm.ext hE
      replace hh := hh.ext hE
      refine a_call rfl rfl rfl go44 (C.as (v := .tuple ⟨[.agg ⟨[.int .i64 (f : Int), .int .i64 ((2 * N : Nat) : Int)]⟩, .bool true]⟩) (ext_join ((f + 0 * N : Nat) : Int) (N : Int) ((f + 1 * N : Nat) : Int) (N : Int) _ (by omega) (by omega)) (by rw [show f + 0 * N = f by omega, join_sl]; rfl)) fun v w hR => ?_
      obtain ⟨rfl, hE⟩ := hR
      refine ⟨hh.ext hE, ?_⟩
      replace hm := hm.ext hE
      replace hh := hh.ext hE
      refine rw_p rfl rfl (y_move rfl) ?_
      refine rw_p rfl rfl (y_extract rfl rfl) ?_
      refine rw_p rfl rfl (y_extract rfl rfl) ?_
      refine a_storeN rfl rfl rfl rfl sz26 rfl hm 0 rfl rfl hh (.inl hg_m2) fun w hm hh => ?_
      refine rw_p rfl rfl (y_assign rfl) ?_
      refine rw_done ?_
      refine gn_sq ?_
      refine HW_seq rfl ?_
      refine HW_text (.pure 0 (.act 1 .done)) (by kernel_rfl) ?_
      refine rw_p rfl rfl (y_loadA (s := 2) (vs := [_, _]) rfl ag26 (hm.nt 0 rfl) rfl) ?_
      refine a_store rfl rfl rfl rfl sz26 rfl hm 1 rfl rfl fun w hm => ?_
      refine rw_done ?_
      refine gn_sq ?_
      refine HW_ret rfl ?_
      refine toR (fin hret rfl (.cell rfl (run_loadVar_a (vs := [_, _]) ag26 (hm.get (k := 1) rfl) rfl) .nil) .one ?_)
      exact ⟨rfl, hm.to⟩
  ·
    refine a_alloc rfl rfl z26 hm hh fun m2 w hg_m2 hm hh => ?_
    refine a_call rfl rfl rfl go35 (o_size D m Z _ (hZ.ext hm.to) hz) fun v w hR => ?_
    obtain ⟨rfl, hE⟩ := hR
    refine ⟨hh.ext hE, ?_⟩
    replace hm := hm.ext hE
    replace hh := hh.ext hE
    refine a_call rfl rfl rfl go41 (jr_slot D m Z _ (hZ.ext hm.to) hz f N b hb hN 0 (by omega)) fun v w hR => ?_
    obtain ⟨rfl, hE⟩ := hR
    refine ⟨hh.ext hE, ?_⟩
    replace hm := hm.ext hE
    replace hh := hh.ext hE
    refine a_call rfl rfl rfl go24 (C.as (v := .agg ⟨[.int .i64 ((f + 0 * N : Nat) : Int), .int .i64 (N : Int)]⟩) (f_secs (D.sz : Int) (((f + 0 * N) * D.sz : Nat) : Int) ((N * D.sz : Nat) : Int) _ (by simp only [Pl.I64]; omega) (by simp only [Pl.I64]; omega) (by simp only [Pl.I64]; omega)) (by rw [secs_sl o1 (by omega) (by omega)]; rfl)) fun v w hR => ?_
    obtain ⟨rfl, hE⟩ := hR
    refine ⟨hh.ext hE, ?_⟩
    replace hm := hm.ext hE
    replace hh := hh.ext hE
    refine a_call rfl rfl rfl go35 (o_size D m Z _ (hZ.ext hm.to) hz) fun v w hR => ?_
    obtain ⟨rfl, hE⟩ := hR
    refine ⟨hh.ext hE, ?_⟩
    replace hm := hm.ext hE
    replace hh := hh.ext hE
    refine a_call rfl rfl rfl go41 (jr_slot D m Z _ (hZ.ext hm.to) hz f N b hb hN 1 (by omega)) fun v w hR => ?_
    obtain ⟨rfl, hE⟩ := hR
    refine ⟨hh.ext hE, ?_⟩
    replace hm := hm.ext hE
    replace hh := hh.ext hE
    refine a_call rfl rfl rfl go24 (C.as (v := .agg ⟨[.int .i64 ((f + 1 * N : Nat) : Int), .int .i64 (N : Int)]⟩) (f_secs (D.sz : Int) (((f + 1 * N) * D.sz : Nat) : Int) ((N * D.sz : Nat) : Int) _ (by simp only [Pl.I64]; omega) (by simp only [Pl.I64]; omega) (by simp only [Pl.I64]; omega)) (by rw [secs_sl o1 (by omega) (by omega)]; rfl)) fun v w hR => ?_
    obtain ⟨rfl, hE⟩ := hR
    refine ⟨hh.ext hE, ?_⟩
    replace hm := hm.ext hE
    replace hh := hh.ext hE
    refine a_call rfl rfl rfl go44 (C.as (v := .tuple ⟨[.agg ⟨[.int .i64 (f : Int), .int .i64 ((2 * N : Nat) : Int)]⟩, .bool true]⟩) (ext_join ((f + 0 * N : Nat) : Int) (N : Int) ((f + 1 * N : Nat) : Int) (N : Int) _ (by omega) (by omega)) (by rw [show f + 0 * N = f by omega, join_sl]; rfl)) fun v w hR => ?_
    obtain ⟨rfl, hE⟩ := hR
    refine ⟨hh.ext hE, ?_⟩
    replace hm := hm.ext hE
    replace hh := hh.ext hE
    refine rw_p rfl rfl (y_move rfl) ?_
    refine rw_p rfl rfl (y_extract rfl rfl) ?_
    refine rw_p rfl rfl (y_extract rfl rfl) ?_
    refine a_storeN rfl rfl rfl rfl sz26 rfl hm 0 rfl rfl hh (.inl hg_m2) fun w hm hh => ?_
    refine rw_p rfl rfl (y_assign rfl) ?_
    refine rw_done ?_
    refine gn_sq ?_
    refine HW_seq rfl ?_
    refine HW_text (.pure 0 (.act 1 .done)) (by kernel_rfl) ?_
    refine rw_p rfl rfl (y_loadA (s := 2) (vs := [_, _]) rfl ag26 (hm.nt 0 rfl) rfl) ?_
    refine a_store rfl rfl rfl rfl sz26 rfl hm 1 rfl rfl fun w hm => ?_
    refine rw_done ?_
    refine gn_sq ?_
    refine HW_ret rfl ?_
    refine toR (fin hret rfl (.cell rfl (run_loadVar_a (vs := [_, _]) ag26 (hm.get (k := 1) rfl) rfl) .nil) .one ?_)
    exact ⟨rfl, hm.to⟩

theorem y_check20 (D : Pl.Dv) (m : Nat) (Z : List (Nat × Blk)) (w0 : World) (hZ : OwnZ w0 Z) (hz : DevZ 87 133 5 D m Z) (s x2 x3 fl x5 x6 k : Int) (hs : (D.sz : Int) ≠ s) : C Try.prog 15 [.agg ⟨[.int .i64 s, .int .i64 x2, .int .i64 x3, .int .i64 fl, .int .i64 x5, .int .i64 x6, .int .i64 k]⟩, .pointer (some ⟨m, 0, none⟩)] w0 fun v w' => v = .int .i64 20 ∧ Ext No w0 w' := by
  refine C_of Try.func15 rfl rfl rfl fun κ hret hnorm => ?_
  have hm := Mem.start w0
  refine HW_seq rfl ?_
  refine HW_text (.act 0 (.pure 1 .done)) (by kernel_rfl) ?_
  refine a_box rfl rfl rfl rfl hm trivial fun m1 w hg_m1 hm hh => ?_
  refine rw_p rfl rfl (y_assign rfl) ?_
  refine rw_done ?_
  refine gn_sq ?_
  refine HW_seq rfl ?_
  refine HW_block rfl ?_
  refine HW_seq rfl ?_
  refine HW_text (.pure 0 (.pure 1 (.pure 2 .done))) (by kernel_rfl) ?_
  refine rw_p rfl rfl (y_move rfl) ?_
  refine rw_p rfl rfl (y_pnil rfl rfl pb47) ?_
  refine rw_p rfl rfl (y_assign rfl) ?_
  refine rw_done ?_
  refine gn_sq ?_
  refine HW_condF rfl rfl rfl ?_
  refine HW_seq rfl ?_
  refine HW_draw (.pure 0 (.pure 2 (.pure 3 (.act 1 (.pure 4 (.pure 5 .done)))))) No mix (by kernel_rfl) hm fun w hw hm0 hh => ?_
  have hm := hm0
  refine rw_p rfl rfl (y_move rfl) ?_
  refine rw_p rfl rfl (y_fieldAddr rfl fo28_0) ?_
  refine rw_p rfl rfl (y_load rfl sc3 (hm0.nd 0 rfl id) rfl) ?_
  refine a_call rfl rfl rfl go35 (o_size D m Z _ (hZ.ext hm.to) hz) fun v w hR => ?_
  obtain ⟨rfl, hE⟩ := hR
  refine ⟨hh.ext hE, ?_⟩
  replace hm := hm.ext hE
  replace hh := hh.ext hE
  refine rw_p rfl rfl (y_as (c := true) (y_ne rfl rfl) (decide_eq_true hs)) ?_
  refine rw_p rfl rfl (y_assign rfl) ?_
  refine rw_done ?_
  refine gn_sq ?_
  refine HW_condT rfl rfl rfl ?_
  refine HW_seq rfl ?_
  refine HW_text (.pure 0 .done) (by kernel_rfl) ?_
  refine rw_p rfl rfl (y_assign rfl) ?_
  refine rw_done ?_
  refine gn_sq ?_
  refine HW_ret rfl ?_
  refine gr_bl (gr_sq ?_)
  refine toR (fin hret rfl (.tmp rfl .nil) .one ?_)
  exact ⟨rfl, hm.to⟩

theorem y_check17 (D : Pl.Dv) (m : Nat) (Z : List (Nat × Blk)) (w0 : World) (hZ : OwnZ w0 Z) (hz : DevZ 87 133 5 D m Z) (x2 x3 fl x5 x6 k : Int) (hk : (D.cnt : Int) < k) : C Try.prog 15 [.agg ⟨[.int .i64 (D.sz : Int), .int .i64 x2, .int .i64 x3, .int .i64 fl, .int .i64 x5, .int .i64 x6, .int .i64 k]⟩, .pointer (some ⟨m, 0, none⟩)] w0 fun v w' => v = .int .i64 17 ∧ Ext No w0 w' := by
  refine C_of Try.func15 rfl rfl rfl fun κ hret hnorm => ?_
  have hm := Mem.start w0
  refine HW_seq rfl ?_
  refine HW_text (.act 0 (.pure 1 .done)) (by kernel_rfl) ?_
  refine a_box rfl rfl rfl rfl hm trivial fun m1 w hg_m1 hm hh => ?_
  refine rw_p rfl rfl (y_assign rfl) ?_
  refine rw_done ?_
  refine gn_sq ?_
  refine HW_seq rfl ?_
  refine HW_block rfl ?_
  refine HW_seq rfl ?_
  refine HW_text (.pure 0 (.pure 1 (.pure 2 .done))) (by kernel_rfl) ?_
  refine rw_p rfl rfl (y_move rfl) ?_
  refine rw_p rfl rfl (y_pnil rfl rfl pb47) ?_
  refine rw_p rfl rfl (y_assign rfl) ?_
  refine rw_done ?_
  refine gn_sq ?_
  refine HW_condF rfl rfl rfl ?_
  refine HW_seq rfl ?_
  refine HW_draw (.pure 0 (.pure 2 (.pure 3 (.act 1 (.pure 4 (.pure 5 .done)))))) No mix (by kernel_rfl) hm fun w hw hm0 hh => ?_
  have hm := hm0
  refine rw_p rfl rfl (y_move rfl) ?_
  refine rw_p rfl rfl (y_fieldAddr rfl fo28_0) ?_
  refine rw_p rfl rfl (y_load rfl sc3 (hm0.nd 0 rfl id) rfl) ?_
  refine a_call rfl rfl rfl go35 (o_size D m Z _ (hZ.ext hm.to) hz) fun v w hR => ?_
  obtain ⟨rfl, hE⟩ := hR
  refine ⟨hh.ext hE, ?_⟩
  replace hm := hm.ext hE
  replace hh := hh.ext hE
  refine rw_p rfl rfl (y_as (c := false) (y_ne rfl rfl) (decide_eq_false (fun h => h rfl))) ?_
  refine rw_p rfl rfl (y_assign rfl) ?_
  refine rw_done ?_
  refine gn_sq ?_
  refine HW_condF rfl rfl rfl ?_
  refine HW_seq rfl ?_
  refine HW_draw (.pure 0 (.pure 2 (.pure 3 (.act 1 (.pure 4 (.pure 5 .done)))))) No mix (by kernel_rfl) hm fun w hw hm0 hh => ?_
  have hm := hm0
  refine rw_p rfl rfl (y_move rfl) ?_
  refine rw_p rfl rfl (y_fieldAddr rfl fo28_4) ?_
  refine rw_p rfl rfl (y_load rfl sc3 (hm0.nd 0 rfl id) rfl) ?_
  refine a_call rfl rfl rfl go16 (o_sectors D m Z _ (hZ.ext hm.to) hz) fun v w hR => ?_
  obtain ⟨rfl, hE⟩ := hR
  refine ⟨hh.ext hE, ?_⟩
  replace hm := hm.ext hE
  replace hh := hh.ext hE
  refine rw_p rfl rfl (y_as (c := true) (y_lt rfl rfl) (decide_eq_true hk)) ?_
  refine rw_p rfl rfl (y_assign rfl) ?_
  refine rw_done ?_
  refine gn_sq ?_
  refine HW_condT rfl rfl rfl ?_
  refine HW_seq rfl ?_
  refine HW_text (.pure 0 .done) (by kernel_rfl) ?_
  refine rw_p rfl rfl (y_assign rfl) ?_
  refine rw_done ?_
  refine gn_sq ?_
  refine HW_ret rfl ?_
  refine gr_bl (gr_sq ?_)
  refine toR (fin hret rfl (.tmp rfl .nil) .one ?_)
  exact ⟨rfl, hm.to⟩

set_option maxHeartbeats 3200000 in
theorem law_checks (s b o n : Int) (sz ct : Int) (w0 : World) (hs : Pl.I64 s) (hb : Pl.I64 b) (ho : Pl.I64 o) (hn : Pl.I64 n) (hsz : Pl.I64 sz) (hct : Pl.I64 ct) : C Try.prog 6 [.agg #[.int .i64 s, .int .i64 b, .int .i64 o, .int .i64 n], .int .i64 sz, .int .i64 ct] w0 fun v w' => v = .bool true ∧ Ext No w0 w' := by
  have hK1 := Pl.secs_bnd s 0 (max o n)
  have hK2 := Pl.slot_bnd s b
  have hK3 : Pl.layF s o n = (Pl.secs s 0 (max o n)).2 := rfl
  refine C_of Try.func6 rfl rfl rfl fun κ hret hnorm => ?_
  have hm := Mem.start w0
  refine HW_seq rfl ?_
  refine HW_text (.act 0 (.pure 1 .done)) (by kernel_rfl) ?_
  refine a_box rfl rfl rfl rfl hm trivial fun m1 w hg_m1 hm hh => ?_
  refine rw_p rfl rfl (y_assign rfl) ?_
  refine rw_done ?_
  refine gn_sq ?_
  refine HW_seq rfl ?_
  refine HW_text (.pure 0 (.pure 1 (.pure 2 (.pure 3 (.pure 4 (.pure 5 (.pure 6 (.pure 7 (.act 8 (.pure 9 (.pure 10 (.pure 11 (.act 12 (.act 13 (.pure 14 .done))))))))))))))) (by kernel_rfl) ?_
  refine rw_p rfl rfl (y_fieldAddr rfl fo23_0) ?_
  refine rw_p rfl rfl (y_load rfl sc3 (hm.nt 0 rfl) rfl) ?_
  refine rw_p rfl rfl (y_fieldAddr rfl fo23_1) ?_
  refine rw_p rfl rfl (y_load rfl sc3 (hm.nt 0 rfl) rfl) ?_
  refine rw_p rfl rfl (y_fieldAddr rfl fo23_2) ?_
  refine rw_p rfl rfl (y_load rfl sc3 (hm.nt 0 rfl) rfl) ?_
  refine rw_p rfl rfl (y_fieldAddr rfl fo23_3) ?_
  refine rw_p rfl rfl (y_load rfl sc3 (hm.nt 0 rfl) rfl) ?_
  refine a_call rfl rfl rfl go7 (y_for _ _ _ _ _ (by omega) (by omega) (by omega) (by omega)) fun v w hR => ?_
  obtain ⟨rfl, hE⟩ := hR
  refine ⟨trivial, ?_⟩
  replace hm := hm.ext hE
  refine rw_p rfl rfl (y_move rfl) ?_
  refine rw_p rfl rfl (y_extract rfl rfl) ?_
  refine rw_p rfl rfl (y_extract rfl rfl) ?_
  refine a_alloc rfl rfl z28 hm trivial fun m2 w hg_m2 hm hh => ?_
  refine a_store rfl rfl rfl rfl sz28 rfl hm 0 rfl rfl fun w hm => ?_
  refine rw_p rfl rfl (y_assign rfl) ?_
  refine rw_done ?_
  refine gn_sq ?_
  refine HW_seq rfl ?_
  refine HW_text (.pure 0 (.pure 1 (.pure 2 (.pure 3 (.pure 4 (.pure 5 (.pure 6 (.pure 7 (.act 8 (.pure 9 (.pure 10 (.pure 11 (.act 12 (.act 13 (.pure 14 .done))))))))))))))) (by kernel_rfl) ?_
  refine rw_p rfl rfl (y_fieldAddr rfl fo23_0) ?_
  refine rw_p rfl rfl (y_load rfl sc3 (hm.nt 1 rfl) rfl) ?_
  refine rw_p rfl rfl (y_fieldAddr rfl fo23_1) ?_
  refine rw_p rfl rfl (y_load rfl sc3 (hm.nt 1 rfl) rfl) ?_
  refine rw_p rfl rfl (y_fieldAddr rfl fo23_2) ?_
  refine rw_p rfl rfl (y_load rfl sc3 (hm.nt 1 rfl) rfl) ?_
  refine rw_p rfl rfl (y_fieldAddr rfl fo23_3) ?_
  refine rw_p rfl rfl (y_load rfl sc3 (hm.nt 1 rfl) rfl) ?_
  refine a_call rfl rfl rfl go8 (r23_for _ _ _ _ _ (by omega) (by omega) (by omega) (by omega)) fun v w hR => ?_
  obtain ⟨rfl, hE⟩ := hR
  refine ⟨trivial, ?_⟩
  replace hm := hm.ext hE
  refine rw_p rfl rfl (y_move rfl) ?_
  refine rw_p rfl rfl (y_extract rfl rfl) ?_
  refine rw_p rfl rfl (y_extract rfl rfl) ?_
  refine a_alloc rfl rfl z32 hm trivial fun m3 w hg_m3 hm hh => ?_
  refine a_store rfl rfl rfl rfl sz32 rfl hm 0 rfl rfl fun w hm => ?_
  refine rw_p rfl rfl (y_assign rfl) ?_
  refine rw_done ?_
  refine gn_sq ?_
  refine HW_seq rfl ?_
  refine HW_seq rfl ?_
  by_cases hE : Pl.layE s b o n = 0
  ·
    have hlv : layV s b o n = [.int .i64 s, .int .i64 b, .int .i64 0, .int .i64 (max o n), .int .i64 (Pl.layF s o n), .int .i64 (2 * Pl.slot s b), .int .i64 (Pl.layF s o n + 2 * Pl.slot s b)] := by unfold layV; rw [hE]; rfl
    rw [hlv] at hm
    refine HW_text (.pure 0 (.pure 1 (.pure 2 (.pure 3 (.pure 4 (.pure 5 (.pure 6 .done))))))) (by kernel_rfl) ?_
    refine rw_p rfl rfl (y_move rfl) ?_
    refine rw_p rfl rfl (y_as (c := false) (y_ne rfl rfl) (decide_eq_false (fun h => h hE))) ?_
    refine rw_p rfl rfl (y_move rfl) ?_
    refine rw_p rfl rfl (y_move rfl) ?_
    refine rw_p rfl rfl (y_move rfl) ?_
    refine rw_p rfl rfl (y_as (c := false) (y_ne rfl rfl) (decide_eq_false (fun h => h rfl))) ?_
    refine rw_p rfl rfl (y_pickF rfl rfl) ?_
    refine rw_done ?_
    refine gn_sq ?_
    refine HW_condF rfl rfl rfl ?_
    refine HW_skip rfl ?_
    refine gn_sq ?_
    refine HW_seq rfl ?_
    refine HW_seq rfl ?_
    refine HW_text (.pure 0 (.pure 1 (.pure 2 (.pure 3 (.pure 4 (.pure 5 (.pure 6 (.pure 7 (.pure 8 (.pure 9 (.pure 10 (.pure 11 (.pure 12 (.pure 13 .done)))))))))))))) (by kernel_rfl) ?_
    refine rw_p rfl rfl (y_move rfl) ?_
    refine rw_p rfl rfl (y_lt rfl rfl) ?_
    refine rw_p rfl rfl (y_move rfl) ?_
    refine rw_g rfl rfl rfl (fun hc => (y_move rfl)) ?_
    refine rw_g rfl rfl rfl (fun hc => (y_lt (gx hc rfl) rfl)) ?_
    refine rw_p rfl rfl (y_or rfl rfl rfl) ?_
    refine rw_p rfl rfl (y_move rfl) ?_
    refine rw_g rfl rfl rfl (fun hc => (y_move rfl)) ?_
    refine rw_g rfl rfl rfl (fun hc => (y_gt (gx hc rfl) rfl)) ?_
    refine rw_p rfl rfl (y_or rfl rfl rfl) ?_
    refine rw_p rfl rfl (y_move rfl) ?_
    refine rw_g rfl rfl rfl (fun hc => (y_move rfl)) ?_
    refine rw_g rfl rfl rfl (fun hc => (y_gt (gx hc rfl) rfl)) ?_
    refine rw_p rfl rfl (y_or rfl rfl rfl) ?_
    refine rw_done ?_
    refine gn_sq ?_
    refine HW_cond rfl rfl (fun hc1 => ?_) (fun hc1 => ?_)
    ·
      refine HW_seq rfl ?_
      refine HW_text (.act 0 (.pure 1 (.pure 2 (.act 3 (.pure 4 (.pure 5 (.pure 6 .done))))))) (by kernel_rfl) ?_
      refine a_call rfl rfl rfl go9 (law_alive _) fun v w hR => ?_
      obtain ⟨rfl, hE⟩ := hR
      refine ⟨trivial, ?_⟩
      replace hm := hm.ext hE
      refine rw_p rfl rfl (y_move rfl) ?_
      refine rw_p rfl rfl (y_loadA (s := 7) (vs := [_, _, _, _, _, _, _]) rfl ag28 (hm.nt 1 rfl) rfl) ?_
      refine a_call rfl rfl rfl go15 (y_checkN s b 0 (max o n) (Pl.layF s o n) (2 * Pl.slot s b) (Pl.layF s o n + 2 * Pl.slot s b) _) fun v w hR => ?_
      obtain ⟨rfl, hE⟩ := hR
      refine ⟨trivial, ?_⟩
      replace hm := hm.ext hE
      refine rw_p rfl rfl (y_as (c := true) (y_eq rfl rfl) (by decide)) ?_
      refine rw_p rfl rfl (y_pickT rfl rfl) ?_
      refine rw_p rfl rfl (y_assign rfl) ?_
      refine rw_done ?_
      refine gn_sq ?_
      refine HW_ret rfl ?_
      refine gr_sq ?_
      refine toR (fin hret rfl (.tmp rfl .nil) .one ?_)
      exact ⟨rfl, hm.to⟩
    ·
      simp only [Bool.or_eq_false_iff, decide_eq_false_iff_not] at hc1
      obtain ⟨⟨⟨hz1, hz2⟩, hz3⟩, hz4⟩ := hc1
      obtain ⟨a, rfl⟩ : ∃ a : Nat, sz = a := ⟨sz.toNat, by omega⟩
      obtain ⟨c, rfl⟩ : ∃ c : Nat, ct = c := ⟨ct.toNat, by omega⟩
      have hac : c * a ≤ 1000 * 1000 := Nat.mul_le_mul (by omega) (by omega)
      have hac2 : (a : Int) * (c : Int) = ((c * a : Nat) : Int) := by rw [Nat.mul_comm]; norm_cast
      have hrt : Pl.right (a : Int) (c : Int) (([] : List UInt8).length : Int) = true := by unfold Pl.right; rw [hac2]; exact decide_eq_true ⟨by omega, by omega, by omega, by simp only [List.length_nil]; omega⟩
      refine HW_skip rfl ?_
      refine gn_sq ?_
      refine HW_seq rfl ?_
      refine HW_text (.pure 0 (.pure 1 (.act 2 (.pure 3 .done)))) (by kernel_rfl) ?_
      refine rw_p rfl rfl (y_move rfl) ?_
      refine rw_p rfl rfl (y_move rfl) ?_
      refine a_call rfl rfl rfl go19 (o_newN a c none 0 [] _ rfl (fun _ h => nomatch h) (by decide) (by decide) [] rfl hrt) fun v w hR => ?_
      obtain ⟨m, Z, rfl, hz, hmc⟩ := hR
      refine ⟨trivial, ?_⟩
      replace hm := hm.callTZ hmc
      refine rw_p rfl rfl (y_assign rfl) ?_
      refine rw_done ?_
      refine gn_sq ?_
      refine HW_seq rfl ?_
      refine HW_seq rfl ?_
      refine HW_text (.pure 0 (.pure 1 .done)) (by kernel_rfl) ?_
      refine rw_p rfl rfl (y_move rfl) ?_
      refine rw_p rfl rfl (y_pnil rfl rfl pb47) ?_
      refine rw_done ?_
      refine gn_sq ?_
      refine HW_condF rfl rfl rfl ?_
      refine HW_skip rfl ?_
      refine gn_sq ?_
      refine HW_seq rfl ?_
      rcases (show (a : Int) ≠ s ∨ ((a : Int) = s ∧ (c : Int) < (Pl.layF s o n + 2 * Pl.slot s b)) ∨ ((a : Int) = s ∧ (Pl.layF s o n + 2 * Pl.slot s b) ≤ (c : Int)) by omega) with hA | ⟨rfl, hB⟩ | ⟨rfl, hB⟩
      ·
        refine HW_text (.pure 0 (.pure 1 (.act 2 (.pure 3 .done)))) (by kernel_rfl) ?_
        refine rw_p rfl rfl (y_loadA (s := 7) (vs := [_, _, _, _, _, _, _]) rfl ag28 (hm.nt 1 rfl) rfl) ?_
        refine rw_p rfl rfl (y_move rfl) ?_
        refine a_call rfl rfl rfl go15 (y_check20 (Pl.nDv a c []) m Z _ (OwnZ.right (A := [_, _, _]) hm.ownZ) hz s b 0 (max o n) (Pl.layF s o n) (2 * Pl.slot s b) (Pl.layF s o n + 2 * Pl.slot s b) hA) fun v w hR => ?_
        obtain ⟨rfl, hE⟩ := hR
        refine ⟨trivial, ?_⟩
        replace hm := hm.ext hE
        refine rw_p rfl rfl (y_assign rfl) ?_
        refine rw_done ?_
        refine gn_sq ?_
        refine HW_seq rfl ?_
        refine HW_text (.pure 0 .done) (by kernel_rfl) ?_
        refine rw_p rfl rfl (y_assign rfl) ?_
        refine rw_done ?_
        refine gn_sq ?_
        refine HW_seq rfl ?_
        refine HW_seq rfl ?_
        refine HW_text (.pure 0 (.pure 1 (.pure 2 (.pure 3 .done)))) (by kernel_rfl) ?_
        refine rw_p rfl rfl (y_move rfl) ?_
        refine rw_p rfl rfl (y_fieldAddr rfl fo32_0) ?_
        refine rw_p rfl rfl (y_load rfl sc3 (hm.nt 0 rfl) rfl) ?_
        refine rw_p rfl rfl (y_as (c := true) (y_ne rfl rfl) (decide_eq_true hA)) ?_
        refine rw_done ?_
        refine gn_sq ?_
        refine HW_condT rfl rfl rfl ?_
        refine HW_text (.pure 0 .done) (by kernel_rfl) ?_
        refine rw_p rfl rfl (y_assign rfl) ?_
        refine rw_done ?_
        refine gn_sq ?_
        refine HW_seq rfl ?_
        refine HW_seq rfl ?_
        refine HW_text (.pure 0 (.pure 1 (.pure 2 .done))) (by kernel_rfl) ?_
        refine rw_p rfl rfl (y_move rfl) ?_
        refine rw_p rfl rfl (y_move rfl) ?_
        refine rw_p rfl rfl (y_as (c := false) (y_ne rfl rfl) (by decide)) ?_
        refine rw_done ?_
        refine gn_sq ?_
        refine HW_condF rfl rfl rfl ?_
        refine HW_skip rfl ?_
        refine gn_sq ?_
        refine HW_seq rfl ?_
        refine HW_seq rfl ?_
        refine HW_text (.pure 0 (.pure 1 .done)) (by kernel_rfl) ?_
        refine rw_p rfl rfl (y_move rfl) ?_
        refine rw_p rfl rfl (y_as (c := true) (y_ne rfl rfl) (by decide)) ?_
        refine rw_done ?_
        refine gn_sq ?_
        refine HW_condT rfl rfl rfl ?_
        refine HW_seq rfl ?_
        refine HW_text (.act 0 (.pure 1 .done)) (by kernel_rfl) ?_
        refine a_call rfl rfl rfl go9 (law_alive _) fun v w hR => ?_
        obtain ⟨rfl, hE⟩ := hR
        refine ⟨trivial, ?_⟩
        replace hm := hm.ext hE
        refine rw_p rfl rfl (y_assign rfl) ?_
        refine rw_done ?_
        refine gn_sq ?_
        refine HW_ret rfl ?_
        refine gr_sq ?_
        refine toR (fin hret rfl (.tmp rfl .nil) .one ?_)
        exact ⟨rfl, hm.to⟩
      ·
        refine HW_text (.pure 0 (.pure 1 (.act 2 (.pure 3 .done)))) (by kernel_rfl) ?_
        refine rw_p rfl rfl (y_loadA (s := 7) (vs := [_, _, _, _, _, _, _]) rfl ag28 (hm.nt 1 rfl) rfl) ?_
        refine rw_p rfl rfl (y_move rfl) ?_
        refine a_call rfl rfl rfl go15 (y_check17 (Pl.nDv a c []) m Z _ (OwnZ.right (A := [_, _, _]) hm.ownZ) hz b 0 (max o n) (Pl.layF (a : Int) o n) (2 * Pl.slot (a : Int) b) (Pl.layF (a : Int) o n + 2 * Pl.slot (a : Int) b) hB) fun v w hR => ?_
        obtain ⟨rfl, hE⟩ := hR
        refine ⟨trivial, ?_⟩
        replace hm := hm.ext hE
        refine rw_p rfl rfl (y_assign rfl) ?_
        refine rw_done ?_
        refine gn_sq ?_
        refine HW_seq rfl ?_
        refine HW_text (.pure 0 .done) (by kernel_rfl) ?_
        refine rw_p rfl rfl (y_assign rfl) ?_
        refine rw_done ?_
        refine gn_sq ?_
        refine HW_seq rfl ?_
        refine HW_seq rfl ?_
        refine HW_text (.pure 0 (.pure 1 (.pure 2 (.pure 3 .done)))) (by kernel_rfl) ?_
        refine rw_p rfl rfl (y_move rfl) ?_
        refine rw_p rfl rfl (y_fieldAddr rfl fo32_0) ?_
        refine rw_p rfl rfl (y_load rfl sc3 (hm.nt 0 rfl) rfl) ?_
        refine rw_p rfl rfl (y_as (c := false) (y_ne rfl rfl) (decide_eq_false (fun h => h rfl))) ?_
        refine rw_done ?_
        refine gn_sq ?_
        refine HW_condF rfl rfl rfl ?_
        refine HW_seq rfl ?_
        refine HW_text (.pure 0 (.pure 1 (.pure 2 (.pure 3 .done)))) (by kernel_rfl) ?_
        refine rw_p rfl rfl (y_move rfl) ?_
        refine rw_p rfl rfl (y_fieldAddr rfl fo32_4) ?_
        refine rw_p rfl rfl (y_load rfl sc3 (hm.nt 0 rfl) rfl) ?_
        refine rw_p rfl rfl (y_as (c := true) (y_lt rfl rfl) (decide_eq_true hB)) ?_
        refine rw_done ?_
        refine gn_sq ?_
        refine HW_condT rfl rfl rfl ?_
        refine HW_text (.pure 0 .done) (by kernel_rfl) ?_
        refine rw_p rfl rfl (y_assign rfl) ?_
        refine rw_done ?_
        refine gn_sq ?_
        refine HW_seq rfl ?_
        refine HW_seq rfl ?_
        refine HW_text (.pure 0 (.pure 1 (.pure 2 .done))) (by kernel_rfl) ?_
        refine rw_p rfl rfl (y_move rfl) ?_
        refine rw_p rfl rfl (y_move rfl) ?_
        refine rw_p rfl rfl (y_as (c := false) (y_ne rfl rfl) (by decide)) ?_
        refine rw_done ?_
        refine gn_sq ?_
        refine HW_condF rfl rfl rfl ?_
        refine HW_skip rfl ?_
        refine gn_sq ?_
        refine HW_seq rfl ?_
        refine HW_seq rfl ?_
        refine HW_text (.pure 0 (.pure 1 .done)) (by kernel_rfl) ?_
        refine rw_p rfl rfl (y_move rfl) ?_
        refine rw_p rfl rfl (y_as (c := true) (y_ne rfl rfl) (by decide)) ?_
        refine rw_done ?_
        refine gn_sq ?_
        refine HW_condT rfl rfl rfl ?_
        refine HW_seq rfl ?_
        refine HW_text (.act 0 (.pure 1 .done)) (by kernel_rfl) ?_
        refine a_call rfl rfl rfl go9 (law_alive _) fun v w hR => ?_
        obtain ⟨rfl, hE⟩ := hR
        refine ⟨trivial, ?_⟩
        replace hm := hm.ext hE
        refine rw_p rfl rfl (y_assign rfl) ?_
        refine rw_done ?_
        refine gn_sq ?_
        refine HW_ret rfl ?_
        refine gr_sq ?_
        refine toR (fin hret rfl (.tmp rfl .nil) .one ?_)
        exact ⟨rfl, hm.to⟩
      ·
        obtain ⟨f, hf⟩ : ∃ f : Nat, Pl.layF (a : Int) o n = f := ⟨(Pl.layF (a : Int) o n).toNat, by omega⟩
        obtain ⟨N, hN⟩ : ∃ N : Nat, Pl.slot (a : Int) b = N := ⟨(Pl.slot (a : Int) b).toNat, by omega⟩
        rw [hf, hN] at hm hB
        have h0 : N ≠ 0 := by intro h9; unfold Pl.layE at hE; rw [hN, h9] at hE; simp at hE
        refine HW_text (.pure 0 (.pure 1 (.act 2 (.pure 3 .done)))) (by kernel_rfl) ?_
        refine rw_p rfl rfl (y_loadA (s := 7) (vs := [_, _, _, _, _, _, _]) rfl ag28 (hm.nt 1 rfl) rfl) ?_
        refine rw_p rfl rfl (y_move rfl) ?_
        refine a_call rfl rfl rfl go15 (y_check (Pl.nDv a c []) m Z _ (OwnZ.right (A := [_, _, _]) hm.ownZ) hz b 0 (max o n) (f : Int) (2 * (N : Int)) ((f : Int) + 2 * (N : Int)) hB) fun v w hR => ?_
        obtain ⟨rfl, hE⟩ := hR
        refine ⟨trivial, ?_⟩
        replace hm := hm.ext hE
        refine rw_p rfl rfl (y_assign rfl) ?_
        refine rw_done ?_
        refine gn_sq ?_
        refine HW_seq rfl ?_
        refine HW_text (.pure 0 .done) (by kernel_rfl) ?_
        refine rw_p rfl rfl (y_assign rfl) ?_
        refine rw_done ?_
        refine gn_sq ?_
        refine HW_seq rfl ?_
        refine HW_seq rfl ?_
        refine HW_text (.pure 0 (.pure 1 (.pure 2 (.pure 3 .done)))) (by kernel_rfl) ?_
        refine rw_p rfl rfl (y_move rfl) ?_
        refine rw_p rfl rfl (y_fieldAddr rfl fo32_0) ?_
        refine rw_p rfl rfl (y_load rfl sc3 (hm.nt 0 rfl) rfl) ?_
        refine rw_p rfl rfl (y_as (c := false) (y_ne rfl rfl) (decide_eq_false (fun h => h rfl))) ?_
        refine rw_done ?_
        refine gn_sq ?_
        refine HW_condF rfl rfl rfl ?_
        refine HW_seq rfl ?_
        refine HW_text (.pure 0 (.pure 1 (.pure 2 (.pure 3 .done)))) (by kernel_rfl) ?_
        refine rw_p rfl rfl (y_move rfl) ?_
        refine rw_p rfl rfl (y_fieldAddr rfl fo32_4) ?_
        refine rw_p rfl rfl (y_load rfl sc3 (hm.nt 0 rfl) rfl) ?_
        refine rw_p rfl rfl (y_as (c := false) (y_lt rfl rfl) (decide_eq_false (by omega))) ?_
        refine rw_done ?_
        refine gn_sq ?_
        refine HW_condF rfl rfl rfl ?_
        refine HW_skip rfl ?_
        refine gn_sq ?_
        refine HW_seq rfl ?_
        refine HW_seq rfl ?_
        refine HW_text (.pure 0 (.pure 1 (.pure 2 .done))) (by kernel_rfl) ?_
        refine rw_p rfl rfl (y_move rfl) ?_
        refine rw_p rfl rfl (y_move rfl) ?_
        refine rw_p rfl rfl (y_as (c := false) (y_ne rfl rfl) (by decide)) ?_
        refine rw_done ?_
        refine gn_sq ?_
        refine HW_condF rfl rfl rfl ?_
        refine HW_skip rfl ?_
        refine gn_sq ?_
        refine HW_seq rfl ?_
        refine HW_seq rfl ?_
        refine HW_text (.pure 0 (.pure 1 .done)) (by kernel_rfl) ?_
        refine rw_p rfl rfl (y_move rfl) ?_
        refine rw_p rfl rfl (y_as (c := false) (y_ne rfl rfl) (by decide)) ?_
        refine rw_done ?_
        refine gn_sq ?_
        refine HW_condF rfl rfl rfl ?_
        refine HW_skip rfl ?_
        refine gn_sq ?_
        refine HW_seq rfl ?_
        refine HW_text (.pure 0 (.pure 1 (.pure 2 (.pure 3 (.pure 4 (.pure 5 (.act 6 (.pure 7 (.pure 8 (.pure 9 (.pure 10 (.pure 11 .done)))))))))))) (by kernel_rfl) ?_
        refine rw_p rfl rfl (y_move rfl) ?_
        refine rw_p rfl rfl (y_fieldAddr rfl fo28_3) ?_
        refine rw_p rfl rfl (y_fieldAddr rfl fo26_0) ?_
        refine rw_p rfl rfl (y_load rfl sc3 (hm.nt 1 rfl) rfl) ?_
        refine rw_p rfl rfl (y_fieldAddr rfl fo28_1) ?_
        refine rw_p rfl rfl (y_load rfl sc3 (hm.nt 1 rfl) rfl) ?_
        refine a_call rfl rfl rfl go20 (j_open (Pl.nDv a c []) m Z _ (OwnZ.right (A := [_, _, _]) hm.ownZ) hz f N b hb hN 1 h0 (show f + 2 * N ≤ c by omega) (fun i hi => zero_rd a c f N i (by omega) (by omega) (by rcases (show i = 0 ∨ i = 1 by omega) with h9 | h9 <;> rw [h9] <;> omega) (by omega))) fun v w hR => ?_
        obtain ⟨j, qJ, cJ, rfl, hmc⟩ := hR
        refine ⟨trivial, ?_⟩
        replace hm := hm.callN hmc
        refine rw_p rfl rfl (y_move rfl) ?_
        refine rw_p rfl rfl (y_extract rfl rfl) ?_
        refine rw_p rfl rfl (y_extract rfl rfl) ?_
        refine rw_p rfl rfl (y_assign rfl) ?_
        refine rw_p rfl rfl (y_assign rfl) ?_
        refine rw_done ?_
        refine gn_sq ?_
        refine HW_seq rfl ?_
        refine HW_draw (.act 0 (.pure 1 (.pure 2 (.pure 3 (.pure 4 (.pure 5 (.pure 6 (.pure 7 (.pure 8 (.pure 9 (.pure 10 (.pure 12 (.pure 13 (.act 11 (.pure 14 (.pure 15 (.pure 16 .done))))))))))))))))) No mix (by kernel_rfl) hm fun w hw hm0 hh => ?_
        have hm := hm0
        refine a_call rfl rfl rfl go9 (law_alive _) fun v w hR => ?_
        obtain ⟨rfl, hE⟩ := hR
        refine ⟨hh.ext hE, ?_⟩
        replace hm := hm.ext hE
        replace hh := hh.ext hE
        refine rw_p rfl rfl (y_move rfl) ?_
        refine rw_p rfl rfl (y_move rfl) ?_
        refine rw_p rfl rfl (y_as (c := true) (y_eq rfl rfl) (by decide)) ?_
        refine rw_p rfl rfl (y_pickT rfl rfl) ?_
        refine rw_p rfl rfl (y_move rfl) ?_
        refine rw_p rfl rfl (y_move rfl) ?_
        refine rw_p rfl rfl (y_pnnil rfl rfl pb63) ?_
        refine rw_p rfl rfl (y_pickT rfl rfl) ?_
        refine rw_p rfl rfl (y_move rfl) ?_
        refine rw_p rfl rfl (y_move rfl) ?_
        refine rw_p rfl rfl (y_fieldAddr rfl fo28_3) ?_
        refine rw_p rfl rfl (y_loadA (s := 2) (vs := [_, _]) rfl ag26 (hm0.nd 2 rfl id) rfl) ?_
        refine a_call rfl rfl rfl go21 (j_region (Pl.nDv a c []) m Z _ (OwnZ.right (A := [_, _, _, _]) hm.ownZ) hz f N b hb hN h0 (show f + 2 * N ≤ c by omega) j 1 qJ cJ (hm.get (k := 0) rfl)) fun v w hR => ?_
        obtain ⟨rfl, hE⟩ := hR
        refine ⟨hh.ext hE, ?_⟩
        replace hm := hm.ext hE
        replace hh := hh.ext hE
        refine rw_p rfl rfl (y_as (c := true) (y_eq2 rfl rfl iii26) (by simp)) ?_
        refine rw_p rfl rfl (y_pickT rfl rfl) ?_
        refine rw_p rfl rfl (y_assign rfl) ?_
        refine rw_done ?_
        refine gn_sq ?_
        refine HW_ret rfl ?_
        refine toR (fin hret rfl (.tmp rfl .nil) .one ?_)
        exact ⟨rfl, hm.to⟩
  ·
    refine HW_text (.pure 0 (.pure 1 (.pure 2 (.pure 3 (.pure 4 (.pure 5 (.pure 6 .done))))))) (by kernel_rfl) ?_
    refine rw_p rfl rfl (y_move rfl) ?_
    refine rw_p rfl rfl (y_as (c := true) (y_ne rfl rfl) (decide_eq_true hE)) ?_
    refine rw_p rfl rfl (y_move rfl) ?_
    refine rw_gf rfl rfl (by decide) rfl ?_
    refine rw_gf rfl rfl (by decide) rfl ?_
    refine rw_gf rfl rfl (by decide) rfl ?_
    refine rw_p rfl rfl (y_pickT rfl rfl) ?_
    refine rw_done ?_
    refine gn_sq ?_
    refine HW_condT rfl rfl rfl ?_
    refine HW_seq rfl ?_
    refine HW_text (.act 0 (.pure 1 (.pure 2 (.pure 3 (.pure 4 (.pure 5 (.pure 6 .done))))))) (by kernel_rfl) ?_
    refine a_call rfl rfl rfl go9 (law_alive _) fun v w hR => ?_
    obtain ⟨rfl, hE⟩ := hR
    refine ⟨trivial, ?_⟩
    replace hm := hm.ext hE
    refine rw_p rfl rfl (y_move rfl) ?_
    refine rw_p rfl rfl (y_move rfl) ?_
    refine rw_p rfl rfl (y_move rfl) ?_
    refine rw_p rfl rfl (y_as (c := true) (y_eq rfl rfl) (by simp)) ?_
    refine rw_p rfl rfl (y_pickT rfl rfl) ?_
    refine rw_p rfl rfl (y_assign rfl) ?_
    refine rw_done ?_
    refine gn_sq ?_
    refine HW_ret rfl ?_
    refine gr_sq ?_
    refine toR (fin hret rfl (.tmp rfl .nil) .one ?_)
    exact ⟨rfl, hm.to⟩

end Go.Proofs.Ytibdmklcdllklaa
