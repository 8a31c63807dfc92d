/- Contracts of functions of the program: what each returns. Conditions: the hypotheses of each theorem. -/
import Derived.Test.YthailbggeafckaaGreatJnD
set_option linter.unusedVariables false
set_option linter.unusedSimpArgs false
namespace Go.Proofs.YthailbggeafckaaGreat
open Go Go.Cx

theorem go46 : isGo Tryz.prog 46 = true := by kernel_rfl

def Pl.jla (S : Pl.Jn) : Pl.Rc := if S.has = true then S.la else Pl.rc0

theorem secs_sl {s g N : Nat} (hs : 1 ≤ s) (hN : 1 ≤ N) (hb : (g + N) * s ≤ 4611686018427387903) : Pl.secs (s : Int) ((g * s : Nat) : Int) ((N * s : Nat) : Int) = ((g : Int), (N : Int)) := by
  have h1 : 1 ≤ N * s := Nat.mul_pos (by omega) (by omega)
  have h2 : (g + N) * s = g * s + N * s := Nat.add_mul ..
  have hv : Pl.valid ((g * s : Nat) : Int) ((N * s : Nat) : Int) = true := Pl.valid_mk (by omega)
  have e1 : ((g * s : Nat) : Int) / (s : Int) = (g : Int) := by
    rw [← Int.natCast_ediv, Nat.mul_div_cancel g (by omega)]
  obtain ⟨K, hK⟩ : ∃ K, g + N = K + 1 := ⟨g + N - 1, by omega⟩
  have h3 : (K + 1) * s = K * s + s := Nat.succ_mul K s
  rw [hK] at h2
  have e2 : (((g * s : Nat) : Int) + ((N * s : Nat) : Int) - 1) / (s : Int) = (K : Int) := by
    have h4 : (g * s + N * s - 1) / s = K := Nat.div_eq_of_lt_le (by omega) (by rw [h3]; omega)
    rw [show ((g * s : Nat) : Int) + ((N * s : Nat) : Int) - 1 = ((g * s + N * s - 1 : Nat) : Int) by omega, ← Int.natCast_ediv, h4]
  unfold Pl.secs
  rw [if_neg (by rw [hv]; simp; omega), e1, e2]
  exact Prod.ext rfl (show (K : Int) - g + 1 = N by omega)
theorem join_sl (f N : Nat) : Pl.joined (f : Int) (N : Int) ((f + 1 * N : Nat) : Int) (N : Int) = some ((f : Int), ((2 * N : Nat) : Int)) := by
  have e1 : ¬ (min ((f : Int) + N) (((f + 1 * N : Nat) : Int) + N) - max (f : Int) ((f + 1 * N : Nat) : Int) < 0) := by omega
  have e2 : ¬ (max ((f : Int) + N) (((f + 1 * N : Nat) : Int) + N) - min (f : Int) ((f + 1 * N : Nat) : Int) < 0) := by omega
  unfold Pl.joined Pl.btw
  rw [if_neg e1]
  simp only [Option.isSome_some, if_true]
  rw [if_neg e2]
  exact congrArg some (Prod.ext (by simp only; omega) (by simp only; omega))


set_option maxHeartbeats 1600000 in
theorem j_region (D : Pl.Dv) (m : Nat) (Z : List (Nat × Blk)) (w0 : World) (hZ : OwnZ w0 Z) (hz : DevZ 107 157 5 D m Z) (f N : Nat) (b : Int) (hb : Pl.I64 b) (hN : Pl.slot (D.sz : Int) b = (N : Int)) (h0 : N ≠ 0) (h2 : f + 2 * N ≤ D.cnt) (S : Pl.Jn) (j : Nat) (k : Int) (q : Option Addr) (c : Nat) (hj : w0.heap[j]? = some (Blk.row 68 (jrow (.pointer (some ⟨m, 0, none⟩)) (f : Int) b k S q c)).toObj) : C Tryz.prog 22 [.pointer (some ⟨j, 0, none⟩)] w0 fun v w' => v = .agg ⟨[.int .i64 (f : Int), .int .i64 ((2 * N : Nat) : Int)]⟩ ∧ Ext No w0 w' := by
  have hok := hz.ok
  have o1 := hok.sz
  have o4 := hok.max
  have o3 := hok.cnt
  have o5 : D.cnt ≤ D.cnt * D.sz := Nat.le_mul_of_pos_right _ o1
  have o7 : D.sz ≤ D.cnt * D.sz := Nat.le_mul_of_pos_left _ o3
  have g0 : (f + 0 * N + N) * D.sz ≤ D.cnt * D.sz := Nat.mul_le_mul_right _ (by omega)
  have g1 : (f + 1 * N + N) * D.sz ≤ D.cnt * D.sz := Nat.mul_le_mul_right _ (by omega)
  have g2 := Nat.add_mul (f + 0 * N) N D.sz
  have g3 := Nat.add_mul (f + 1 * N) N D.sz
  refine C_of Tryz.func22 rfl rfl rfl fun κ hret hnorm => ?_
  have hm := Mem.start w0
  refine HW_seq rfl ?_
  refine HW_text (.act 0 .done) (by kernel_rfl) ?_
  refine a_alloc rfl rfl z63 hm trivial fun m1 w hg_m1 hm hh => ?_
  refine rw_done ?_
  refine gn_sq ?_
  refine HW_seq rfl ?_
  refine HW_seq rfl ?_
  refine HW_text (.pure 0 (.pure 1 .done)) (by kernel_rfl) ?_
  refine rw_p rfl rfl (y_move rfl) ?_
  refine rw_p rfl rfl (y_pnil rfl rfl pb33) ?_
  refine rw_done ?_
  refine gn_sq ?_
  refine HW_condF rfl rfl rfl ?_
  refine HW_skip rfl ?_
  refine gn_sq ?_
  refine HW_seq rfl ?_
  refine HW_draw (.pure 0 (.pure 1 (.pure 2 (.pure 3 (.pure 4 (.pure 6 (.pure 7 (.pure 8 (.pure 9 (.pure 12 (.pure 13 (.pure 14 (.pure 15 (.pure 16 (.pure 18 (.pure 19 (.pure 20 (.pure 21 (.act2 5 (.act2 10 (.act2 11 (.act2 17 (.act2 22 (.act2 23 (.act2 24 (.pure 25 (.pure 26 (.pure 27 (.act 28 (.act 29 (.pure 30 .done)))))) 28 (.act 24 (.pure 25 (.pure 26 (.pure 27 (.act 29 (.pure 30 .done))))))) 28 (.act 23 (.act 24 (.pure 25 (.pure 26 (.pure 27 (.act 29 (.pure 30 .done)))))))) 28 (.act 22 (.act 23 (.act 24 (.pure 25 (.pure 26 (.pure 27 (.act 29 (.pure 30 .done))))))))) 28 (.act 17 (.act 22 (.act 23 (.act 24 (.pure 25 (.pure 26 (.pure 27 (.act 29 (.pure 30 .done)))))))))) 28 (.act 11 (.act 17 (.act 22 (.act 23 (.act 24 (.pure 25 (.pure 26 (.pure 27 (.act 29 (.pure 30 .done))))))))))) 28 (.act 10 (.act 11 (.act 17 (.act 22 (.act 23 (.act 24 (.pure 25 (.pure 26 (.pure 27 (.act 29 (.pure 30 .done)))))))))))) 28 (.act 5 (.act 10 (.act 11 (.act 17 (.act 22 (.act 23 (.act 24 (.pure 25 (.pure 26 (.pure 27 (.act 29 (.pure 30 .done))))))))))))))))))))))))))))))) No mix (by kernel_rfl) hm fun w hw hm0 hh => ?_
  have hm := hm0
  refine rw_p rfl rfl (y_move rfl) ?_
  refine rw_p rfl rfl (y_nil rfl) ?_
  refine rw_p rfl rfl (y_fieldAddr rfl fo68_0) ?_
  refine rw_p rfl rfl (y_fieldAddr rfl fo66_0) ?_
  refine rw_p rfl rfl (y_load rfl sc27 (fun u hu => ((hm0.to.trans hu).same _ (Array.getElem?_eq_some_iff.1 hj).1 id).trans hj) rfl) ?_
  refine rw_p rfl rfl (y_move rfl) ?_
  refine rw_p rfl rfl (y_nil rfl) ?_
  refine rw_p rfl rfl (y_fieldAddr rfl fo68_0) ?_
  refine rw_p rfl rfl (y_loadA (s := 3) (vs := [_, _, _]) rfl ag66 (fun u hu => ((hm0.to.trans hu).same _ (Array.getElem?_eq_some_iff.1 hj).1 id).trans hj) rfl) ?_
  refine rw_p rfl rfl (y_move rfl) ?_
  refine rw_p rfl rfl (y_nil rfl) ?_
  refine rw_p rfl rfl (y_fieldAddr rfl fo68_0) ?_
  refine rw_p rfl rfl (y_fieldAddr rfl fo66_0) ?_
  refine rw_p rfl rfl (y_load rfl sc27 (fun u hu => ((hm0.to.trans hu).same _ (Array.getElem?_eq_some_iff.1 hj).1 id).trans hj) rfl) ?_
  refine rw_p rfl rfl (y_move rfl) ?_
  refine rw_p rfl rfl (y_nil rfl) ?_
  refine rw_p rfl rfl (y_fieldAddr rfl fo68_0) ?_
  refine rw_p rfl rfl (y_loadA (s := 3) (vs := [_, _, _]) rfl ag66 (fun u hu => ((hm0.to.trans hu).same _ (Array.getElem?_eq_some_iff.1 hj).1 id).trans hj) rfl) ?_
  refine a_two ?_ ?_
  ·
    refine a_call rfl rfl rfl go48 (o_size D m Z _ (hZ.ext hm.to) hz) fun v w hR => ?_
    obtain ⟨rfl, hE⟩ := hR
    refine ⟨hh.ext hE, ?_⟩
    replace hm := hm.ext hE
    replace hh := hh.ext hE
    refine a_two ?_ ?_
    ·
      refine a_call rfl rfl rfl go26 (jr_slot D m Z _ (hZ.ext hm.to) hz f N b hb hN 0 (by omega)) fun v w hR => ?_
      obtain ⟨rfl, hE⟩ := hR
      refine ⟨hh.ext hE, ?_⟩
      replace hm := hm.ext hE
      replace hh := hh.ext hE
      refine a_two ?_ ?_
      ·
        refine a_call rfl rfl rfl go47 (C.as (v := .agg ⟨[.int .i64 ((f + 0 * N : Nat) : Int), .int .i64 (N : Int)]⟩) (f_secs (D.sz : Int) (((f + 0 * N) * D.sz : Nat) : Int) ((N * D.sz : Nat) : Int) _ (by simp only [Pl.I64]; omega) (by simp only [Pl.I64]; omega) (by simp only [Pl.I64]; omega)) (by rw [secs_sl o1 (by omega) (by omega)]; rfl)) fun v w hR => ?_
        obtain ⟨rfl, hE⟩ := hR
        refine ⟨hh.ext hE, ?_⟩
        replace hm := hm.ext hE
        replace hh := hh.ext hE
        refine a_two ?_ ?_
        ·
          refine a_call rfl rfl rfl go48 (o_size D m Z _ (hZ.ext hm.to) hz) fun v w hR => ?_
          obtain ⟨rfl, hE⟩ := hR
          refine ⟨hh.ext hE, ?_⟩
          replace hm := hm.ext hE
          replace hh := hh.ext hE
          refine a_two ?_ ?_
          ·
            refine a_call rfl rfl rfl go26 (jr_slot D m Z _ (hZ.ext hm.to) hz f N b hb hN 1 (by omega)) fun v w hR => ?_
            obtain ⟨rfl, hE⟩ := hR
            refine ⟨hh.ext hE, ?_⟩
            replace hm := hm.ext hE
            replace hh := hh.ext hE
            refine a_two ?_ ?_
            ·
              refine a_call rfl rfl rfl go47 (C.as (v := .agg ⟨[.int .i64 ((f + 1 * N : Nat) : Int), .int .i64 (N : Int)]⟩) (f_secs (D.sz : Int) (((f + 1 * N) * D.sz : Nat) : Int) ((N * D.sz : Nat) : Int) _ (by simp only [Pl.I64]; omega) (by simp only [Pl.I64]; omega) (by simp only [Pl.I64]; omega)) (by rw [secs_sl o1 (by omega) (by omega)]; rfl)) fun v w hR => ?_
              obtain ⟨rfl, hE⟩ := hR
              refine ⟨hh.ext hE, ?_⟩
              replace hm := hm.ext hE
              replace hh := hh.ext hE
              refine a_two ?_ ?_
              ·
                refine a_call rfl rfl rfl go46 (C.as (v := .tuple ⟨[.agg ⟨[.int .i64 (f : Int), .int .i64 ((2 * N : Nat) : Int)]⟩, .bool true]⟩) (ext_join ((f + 0 * N : Nat) : Int) (N : Int) ((f + 1 * N : Nat) : Int) (N : Int) _ (by omega) (by omega)) (by rw [show f + 0 * N = f by omega, join_sl]; rfl)) fun v w hR => ?_
                obtain ⟨rfl, hE⟩ := hR
                refine ⟨hh.ext hE, ?_⟩
                replace hm := hm.ext hE
                replace hh := hh.ext hE
                refine rw_p rfl rfl (y_move rfl) ?_
                refine rw_p rfl rfl (y_extract rfl rfl) ?_
                refine rw_p rfl rfl (y_extract rfl rfl) ?_
                refine a_alloc rfl rfl z63 hm hh fun m2 w hg_m2 hm hh => ?_
                refine a_storeN rfl rfl rfl rfl sz63 rfl hm 0 rfl rfl hh (.inl hg_m2) fun w hm hh => ?_
                refine rw_p rfl rfl (y_assign rfl) ?_
                refine rw_done ?_
                refine gn_sq ?_
                refine HW_seq rfl ?_
                refine HW_text (.pure 0 (.act 1 .done)) (by kernel_rfl) ?_
                refine rw_p rfl rfl (y_loadA (s := 2) (vs := [_, _]) rfl ag63 (hm.nt 0 rfl) rfl) ?_
                refine a_store rfl rfl rfl rfl sz63 rfl hm 1 rfl rfl fun w hm => ?_
                refine rw_done ?_
                refine gn_sq ?_
                refine HW_ret rfl ?_
                refine toR (fin hret rfl (.cell rfl (run_loadVar_a (vs := [_, _]) ag63 (hm.get (k := 1) rfl) rfl) .nil) .one ?_)
                exact ⟨rfl, hm.to⟩
              ·
                refine a_alloc rfl rfl z63 hm hh fun m2 w hg_m2 hm hh => ?_
                refine a_call rfl rfl rfl go46 (C.as (v := .tuple ⟨[.agg ⟨[.int .i64 (f : Int), .int .i64 ((2 * N : Nat) : Int)]⟩, .bool true]⟩) (ext_join ((f + 0 * N : Nat) : Int) (N : Int) ((f + 1 * N : Nat) : Int) (N : Int) _ (by omega) (by omega)) (by rw [show f + 0 * N = f by omega, join_sl]; rfl)) fun v w hR => ?_
                obtain ⟨rfl, hE⟩ := hR
                refine ⟨hh.ext hE, ?_⟩
                replace hm := hm.ext hE
                replace hh := hh.ext hE
                refine rw_p rfl rfl (y_move rfl) ?_
                refine rw_p rfl rfl (y_extract rfl rfl) ?_
                refine rw_p rfl rfl (y_extract rfl rfl) ?_
                refine a_storeN rfl rfl rfl rfl sz63 rfl hm 0 rfl rfl hh (.inl hg_m2) fun w hm hh => ?_
                refine rw_p rfl rfl (y_assign rfl) ?_
                refine rw_done ?_
                refine gn_sq ?_
                refine HW_seq rfl ?_
                refine HW_text (.pure 0 (.act 1 .done)) (by kernel_rfl) ?_
                refine rw_p rfl rfl (y_loadA (s := 2) (vs := [_, _]) rfl ag63 (hm.nt 0 rfl) rfl) ?_
                refine a_store rfl rfl rfl rfl sz63 rfl hm 1 rfl rfl fun w hm => ?_
                refine rw_done ?_
                refine gn_sq ?_
                refine HW_ret rfl ?_
                refine toR (fin hret rfl (.cell rfl (run_loadVar_a (vs := [_, _]) ag63 (hm.get (k := 1) rfl) rfl) .nil) .one ?_)
                exact ⟨rfl, hm.to⟩
            ·
              refine a_alloc rfl rfl z63 hm hh fun m2 w hg_m2 hm hh => ?_
              refine a_call rfl rfl rfl go47 (C.as (v := .agg ⟨[.int .i64 ((f + 1 * N : Nat) : Int), .int .i64 (N : Int)]⟩) (f_secs (D.sz : Int) (((f + 1 * N) * D.sz : Nat) : Int) ((N * D.sz : Nat) : Int) _ (by simp only [Pl.I64]; omega) (by simp only [Pl.I64]; omega) (by simp only [Pl.I64]; omega)) (by rw [secs_sl o1 (by omega) (by omega)]; rfl)) fun v w hR => ?_
              obtain ⟨rfl, hE⟩ := hR
              refine ⟨hh.ext hE, ?_⟩
              replace hm := hm.ext hE
              replace hh := hh.ext hE
              refine a_call rfl rfl rfl go46 (C.as (v := .tuple ⟨[.agg ⟨[.int .i64 (f : Int), .int .i64 ((2 * N : Nat) : Int)]⟩, .bool true]⟩) (ext_join ((f + 0 * N : Nat) : Int) (N : Int) ((f + 1 * N : Nat) : Int) (N : Int) _ (by omega) (by omega)) (by rw [show f + 0 * N = f by omega, join_sl]; rfl)) fun v w hR => ?_
              obtain ⟨rfl, hE⟩ := hR
              refine ⟨hh.ext hE, ?_⟩
              replace hm := hm.ext hE
              replace hh := hh.ext hE
              refine rw_p rfl rfl (y_move rfl) ?_
              refine rw_p rfl rfl (y_extract rfl rfl) ?_
              refine rw_p rfl rfl (y_extract rfl rfl) ?_
              refine a_storeN rfl rfl rfl rfl sz63 rfl hm 0 rfl rfl hh (.inl hg_m2) fun w hm hh => ?_
              refine rw_p rfl rfl (y_assign rfl) ?_
              refine rw_done ?_
              refine gn_sq ?_
              refine HW_seq rfl ?_
              refine HW_text (.pure 0 (.act 1 .done)) (by kernel_rfl) ?_
              refine rw_p rfl rfl (y_loadA (s := 2) (vs := [_, _]) rfl ag63 (hm.nt 0 rfl) rfl) ?_
              refine a_store rfl rfl rfl rfl sz63 rfl hm 1 rfl rfl fun w hm => ?_
              refine rw_done ?_
              refine gn_sq ?_
              refine HW_ret rfl ?_
              refine toR (fin hret rfl (.cell rfl (run_loadVar_a (vs := [_, _]) ag63 (hm.get (k := 1) rfl) rfl) .nil) .one ?_)
              exact ⟨rfl, hm.to⟩
          ·
            refine a_alloc rfl rfl z63 hm hh fun m2 w hg_m2 hm hh => ?_
            refine a_call rfl rfl rfl go26 (jr_slot D m Z _ (hZ.ext hm.to) hz f N b hb hN 1 (by omega)) fun v w hR => ?_
            obtain ⟨rfl, hE⟩ := hR
            refine ⟨hh.ext hE, ?_⟩
            replace hm := hm.ext hE
            replace hh := hh.ext hE
            refine a_call rfl rfl rfl go47 (C.as (v := .agg ⟨[.int .i64 ((f + 1 * N : Nat) : Int), .int .i64 (N : Int)]⟩) (f_secs (D.sz : Int) (((f + 1 * N) * D.sz : Nat) : Int) ((N * D.sz : Nat) : Int) _ (by simp only [Pl.I64]; omega) (by simp only [Pl.I64]; omega) (by simp only [Pl.I64]; omega)) (by rw [secs_sl o1 (by omega) (by omega)]; rfl)) fun v w hR => ?_
            obtain ⟨rfl, hE⟩ := hR
            refine ⟨hh.ext hE, ?_⟩
            replace hm := hm.ext hE
            replace hh := hh.ext hE
            refine a_call rfl rfl rfl go46 (C.as (v := .tuple ⟨[.agg ⟨[.int .i64 (f : Int), .int .i64 ((2 * N : Nat) : Int)]⟩, .bool true]⟩) (ext_join ((f + 0 * N : Nat) : Int) (N : Int) ((f + 1 * N : Nat) : Int) (N : Int) _ (by omega) (by omega)) (by rw [show f + 0 * N = f by omega, join_sl]; rfl)) fun v w hR => ?_
            obtain ⟨rfl, hE⟩ := hR
            refine ⟨hh.ext hE, ?_⟩
            replace hm := hm.ext hE
            replace hh := hh.ext hE
            refine rw_p rfl rfl (y_move rfl) ?_
            refine rw_p rfl rfl (y_extract rfl rfl) ?_
            refine rw_p rfl rfl (y_extract rfl rfl) ?_
            refine a_storeN rfl rfl rfl rfl sz63 rfl hm 0 rfl rfl hh (.inl hg_m2) fun w hm hh => ?_
            refine rw_p rfl rfl (y_assign rfl) ?_
            refine rw_done ?_
            refine gn_sq ?_
            refine HW_seq rfl ?_
            refine HW_text (.pure 0 (.act 1 .done)) (by kernel_rfl) ?_
            refine rw_p rfl rfl (y_loadA (s := 2) (vs := [_, _]) rfl ag63 (hm.nt 0 rfl) rfl) ?_
            refine a_store rfl rfl rfl rfl sz63 rfl hm 1 rfl rfl fun w hm => ?_
            refine rw_done ?_
            refine gn_sq ?_
            refine HW_ret rfl ?_
            refine toR (fin hret rfl (.cell rfl (run_loadVar_a (vs := [_, _]) ag63 (hm.get (k := 1) rfl) rfl) .nil) .one ?_)
            exact ⟨rfl, hm.to⟩
        ·
          refine a_alloc rfl rfl z63 hm hh fun m2 w hg_m2 hm hh => ?_
          refine a_call rfl rfl rfl go48 (o_size D m Z _ (hZ.ext hm.to) hz) fun v w hR => ?_
          obtain ⟨rfl, hE⟩ := hR
          refine ⟨hh.ext hE, ?_⟩
          replace hm := hm.ext hE
          replace hh := hh.ext hE
          refine a_call rfl rfl rfl go26 (jr_slot D m Z _ (hZ.ext hm.to) hz f N b hb hN 1 (by omega)) fun v w hR => ?_
          obtain ⟨rfl, hE⟩ := hR
          refine ⟨hh.ext hE, ?_⟩
          replace hm := hm.ext hE
          replace hh := hh.ext hE
          refine a_call rfl rfl rfl go47 (C.as (v := .agg ⟨[.int .i64 ((f + 1 * N : Nat) : Int), .int .i64 (N : Int)]⟩) (f_secs (D.sz : Int) (((f + 1 * N) * D.sz : Nat) : Int) ((N * D.sz : Nat) : Int) _ (by simp only [Pl.I64]; omega) (by simp only [Pl.I64]; omega) (by simp only [Pl.I64]; omega)) (by rw [secs_sl o1 (by omega) (by omega)]; rfl)) fun v w hR => ?_
          obtain ⟨rfl, hE⟩ := hR
          refine ⟨hh.ext hE, ?_⟩
          replace hm := hm.ext hE
          replace hh := hh.ext hE
          refine a_call rfl rfl rfl go46 (C.as (v := .tuple ⟨[.agg ⟨[.int .i64 (f : Int), .int .i64 ((2 * N : Nat) : Int)]⟩, .bool true]⟩) (ext_join ((f + 0 * N : Nat) : Int) (N : Int) ((f + 1 * N : Nat) : Int) (N : Int) _ (by omega) (by omega)) (by rw [show f + 0 * N = f by omega, join_sl]; rfl)) fun v w hR => ?_
          obtain ⟨rfl, hE⟩ := hR
          refine ⟨hh.ext hE, ?_⟩
          replace hm := hm.ext hE
          replace hh := hh.ext hE
          refine rw_p rfl rfl (y_move rfl) ?_
          refine rw_p rfl rfl (y_extract rfl rfl) ?_
          refine rw_p rfl rfl (y_extract rfl rfl) ?_
          refine a_storeN rfl rfl rfl rfl sz63 rfl hm 0 rfl rfl hh (.inl hg_m2) fun w hm hh => ?_
          refine rw_p rfl rfl (y_assign rfl) ?_
          refine rw_done ?_
          refine gn_sq ?_
          refine HW_seq rfl ?_
          refine HW_text (.pure 0 (.act 1 .done)) (by kernel_rfl) ?_
          refine rw_p rfl rfl (y_loadA (s := 2) (vs := [_, _]) rfl ag63 (hm.nt 0 rfl) rfl) ?_
          refine a_store rfl rfl rfl rfl sz63 rfl hm 1 rfl rfl fun w hm => ?_
          refine rw_done ?_
          refine gn_sq ?_
          refine HW_ret rfl ?_
          refine toR (fin hret rfl (.cell rfl (run_loadVar_a (vs := [_, _]) ag63 (hm.get (k := 1) rfl) rfl) .nil) .one ?_)
          exact ⟨rfl, hm.to⟩
      ·
        refine a_alloc rfl rfl z63 hm hh fun m2 w hg_m2 hm hh => ?_
        refine a_call rfl rfl rfl go47 (C.as (v := .agg ⟨[.int .i64 ((f + 0 * N : Nat) : Int), .int .i64 (N : Int)]⟩) (f_secs (D.sz : Int) (((f + 0 * N) * D.sz : Nat) : Int) ((N * D.sz : Nat) : Int) _ (by simp only [Pl.I64]; omega) (by simp only [Pl.I64]; omega) (by simp only [Pl.I64]; omega)) (by rw [secs_sl o1 (by omega) (by omega)]; rfl)) fun v w hR => ?_
        obtain ⟨rfl, hE⟩ := hR
        refine ⟨hh.ext hE, ?_⟩
        replace hm := hm.ext hE
        replace hh := hh.ext hE
        refine a_call rfl rfl rfl go48 (o_size D m Z _ (hZ.ext hm.to) hz) fun v w hR => ?_
        obtain ⟨rfl, hE⟩ := hR
        refine ⟨hh.ext hE, ?_⟩
        replace hm := hm.ext hE
        replace hh := hh.ext hE
        refine a_call rfl rfl rfl go26 (jr_slot D m Z _ (hZ.ext hm.to) hz f N b hb hN 1 (by omega)) fun v w hR => ?_
        obtain ⟨rfl, hE⟩ := hR
        refine ⟨hh.ext hE, ?_⟩
        replace hm := hm.ext hE
        replace hh := hh.ext hE
        refine a_call rfl rfl rfl go47 (C.as (v := .agg ⟨[.int .i64 ((f + 1 * N : Nat) : Int), .int .i64 (N : Int)]⟩) (f_secs (D.sz : Int) (((f + 1 * N) * D.sz : Nat) : Int) ((N * D.sz : Nat) : Int) _ (by simp only [Pl.I64]; omega) (by simp only [Pl.I64]; omega) (by simp only [Pl.I64]; omega)) (by rw [secs_sl o1 (by omega) (by omega)]; rfl)) fun v w hR => ?_
        obtain ⟨rfl, hE⟩ := hR
        refine ⟨hh.ext hE, ?_⟩
        replace hm := hm.ext hE
        replace hh := hh.ext hE
        refine a_call rfl rfl rfl go46 (C.as (v := .tuple ⟨[.agg ⟨[.int .i64 (f : Int), .int .i64 ((2 * N : Nat) : Int)]⟩, .bool true]⟩) (ext_join ((f + 0 * N : Nat) : Int) (N : Int) ((f + 1 * N : Nat) : Int) (N : Int) _ (by omega) (by omega)) (by rw [show f + 0 * N = f by omega, join_sl]; rfl)) fun v w hR => ?_
        obtain ⟨rfl, hE⟩ := hR
        refine ⟨hh.ext hE, ?_⟩
        replace hm := hm.ext hE
        replace hh := hh.ext hE
        refine rw_p rfl rfl (y_move rfl) ?_
        refine rw_p rfl rfl (y_extract rfl rfl) ?_
        refine rw_p rfl rfl (y_extract rfl rfl) ?_
        refine a_storeN rfl rfl rfl rfl sz63 rfl hm 0 rfl rfl hh (.inl hg_m2) fun w hm hh => ?_
        refine rw_p rfl rfl (y_assign rfl) ?_
        refine rw_done ?_
        refine gn_sq ?_
        refine HW_seq rfl ?_
        refine HW_text (.pure 0 (.act 1 .done)) (by kernel_rfl) ?_
        refine rw_p rfl rfl (y_loadA (s := 2) (vs := [_, _]) rfl ag63 (hm.nt 0 rfl) rfl) ?_
        refine a_store rfl rfl rfl rfl sz63 rfl hm 1 rfl rfl fun w hm => ?_
        refine rw_done ?_
        refine gn_sq ?_
        refine HW_ret rfl ?_
        refine toR (fin hret rfl (.cell rfl (run_loadVar_a (vs := [_, _]) ag63 (hm.get (k := 1) rfl) rfl) .nil) .one ?_)
        exact ⟨rfl, hm.to⟩
    ·
      refine a_alloc rfl rfl z63 hm hh fun m2 w hg_m2 hm hh => ?_
      refine a_call rfl rfl rfl go26 (jr_slot D m Z _ (hZ.ext hm.to) hz f N b hb hN 0 (by omega)) fun v w hR => ?_
      obtain ⟨rfl, hE⟩ := hR
      refine ⟨hh.ext hE, ?_⟩
      replace hm := hm.ext hE
      replace hh := hh.ext hE
      refine a_call rfl rfl rfl go47 (C.as (v := .agg ⟨[.int .i64 ((f + 0 * N : Nat) : Int), .int .i64 (N : Int)]⟩) (f_secs (D.sz : Int) (((f + 0 * N) * D.sz : Nat) : Int) ((N * D.sz : Nat) : Int) _ (by simp only [Pl.I64]; omega) (by simp only [Pl.I64]; omega) (by simp only [Pl.I64]; omega)) (by rw [secs_sl o1 (by omega) (by omega)]; rfl)) fun v w hR => ?_
      obtain ⟨rfl, hE⟩ := hR
      refine ⟨hh.ext hE, ?_⟩
      replace hm := hm.ext hE
      replace hh := hh.ext hE
      refine a_call rfl rfl rfl go48 (o_size D m Z _ (hZ.ext hm.to) hz) fun v w hR => ?_
      obtain ⟨rfl, hE⟩ := hR
      refine ⟨hh.ext hE, ?_⟩
      replace hm := hm.ext hE
      replace hh := hh.ext hE
      refine a_call rfl rfl rfl go26 (jr_slot D m Z _ (hZ.ext hm.to) hz f N b hb hN 1 (by omega)) fun v w hR => ?_
      obtain ⟨rfl, hE⟩ := hR
      refine ⟨hh.ext hE, ?_⟩
      replace hm := hm.ext hE
      replace hh := hh.ext hE
      refine a_call rfl rfl rfl go47 (C.as (v := .agg ⟨[.int .i64 ((f + 1 * N : Nat) : Int), .int .i64 (N : Int)]⟩) (f_secs (D.sz : Int) (((f + 1 * N) * D.sz : Nat) : Int) ((N * D.sz : Nat) : Int) _ (by simp only [Pl.I64]; omega) (by simp only [Pl.I64]; omega) (by simp only [Pl.I64]; omega)) (by rw [secs_sl o1 (by omega) (by omega)]; rfl)) fun v w hR => ?_
      obtain ⟨rfl, hE⟩ := hR
      refine ⟨hh.ext hE, ?_⟩
      replace hm := hm.ext hE
      replace hh := hh.ext hE
      refine a_call rfl rfl rfl go46 (C.as (v := .tuple ⟨[.agg ⟨[.int .i64 (f : Int), .int .i64 ((2 * N : Nat) : Int)]⟩, .bool true]⟩) (ext_join ((f + 0 * N : Nat) : Int) (N : Int) ((f + 1 * N : Nat) : Int) (N : Int) _ (by omega) (by omega)) (by rw [show f + 0 * N = f by omega, join_sl]; rfl)) fun v w hR => ?_
      obtain ⟨rfl, hE⟩ := hR
      refine ⟨hh.ext hE, ?_⟩
      replace hm := hm.ext hE
      replace hh := hh.ext hE
      refine rw_p rfl rfl (y_move rfl) ?_
      refine rw_p rfl rfl (y_extract rfl rfl) ?_
      refine rw_p rfl rfl (y_extract rfl rfl) ?_
      refine a_storeN rfl rfl rfl rfl sz63 rfl hm 0 rfl rfl hh (.inl hg_m2) fun w hm hh => ?_
      refine rw_p rfl rfl (y_assign rfl) ?_
      refine rw_done ?_
      refine gn_sq ?_
      refine HW_seq rfl ?_
      refine HW_text (.pure 0 (.act 1 .done)) (by kernel_rfl) ?_
      refine rw_p rfl rfl (y_loadA (s := 2) (vs := [_, _]) rfl ag63 (hm.nt 0 rfl) rfl) ?_
      refine a_store rfl rfl rfl rfl sz63 rfl hm 1 rfl rfl fun w hm => ?_
      refine rw_done ?_
      refine gn_sq ?_
      refine HW_ret rfl ?_
      refine toR (fin hret rfl (.cell rfl (run_loadVar_a (vs := [_, _]) ag63 (hm.get (k := 1) rfl) rfl) .nil) .one ?_)
      exact ⟨rfl, hm.to⟩
  ·
    refine a_alloc rfl rfl z63 hm hh fun m2 w hg_m2 hm hh => ?_
    refine a_call rfl rfl rfl go48 (o_size D m Z _ (hZ.ext hm.to) hz) fun v w hR => ?_
    obtain ⟨rfl, hE⟩ := hR
    refine ⟨hh.ext hE, ?_⟩
    replace hm := hm.ext hE
    replace hh := hh.ext hE
    refine a_call rfl rfl rfl go26 (jr_slot D m Z _ (hZ.ext hm.to) hz f N b hb hN 0 (by omega)) fun v w hR => ?_
    obtain ⟨rfl, hE⟩ := hR
    refine ⟨hh.ext hE, ?_⟩
    replace hm := hm.ext hE
    replace hh := hh.ext hE
    refine a_call rfl rfl rfl go47 (C.as (v := .agg ⟨[.int .i64 ((f + 0 * N : Nat) : Int), .int .i64 (N : Int)]⟩) (f_secs (D.sz : Int) (((f + 0 * N) * D.sz : Nat) : Int) ((N * D.sz : Nat) : Int) _ (by simp only [Pl.I64]; omega) (by simp only [Pl.I64]; omega) (by simp only [Pl.I64]; omega)) (by rw [secs_sl o1 (by omega) (by omega)]; rfl)) fun v w hR => ?_
    obtain ⟨rfl, hE⟩ := hR
    refine ⟨hh.ext hE, ?_⟩
    replace hm := hm.ext hE
    replace hh := hh.ext hE
    refine a_call rfl rfl rfl go48 (o_size D m Z _ (hZ.ext hm.to) hz) fun v w hR => ?_
    obtain ⟨rfl, hE⟩ := hR
    refine ⟨hh.ext hE, ?_⟩
    replace hm := hm.ext hE
    replace hh := hh.ext hE
    refine a_call rfl rfl rfl go26 (jr_slot D m Z _ (hZ.ext hm.to) hz f N b hb hN 1 (by omega)) fun v w hR => ?_
    obtain ⟨rfl, hE⟩ := hR
    refine ⟨hh.ext hE, ?_⟩
    replace hm := hm.ext hE
    replace hh := hh.ext hE
    refine a_call rfl rfl rfl go47 (C.as (v := .agg ⟨[.int .i64 ((f + 1 * N : Nat) : Int), .int .i64 (N : Int)]⟩) (f_secs (D.sz : Int) (((f + 1 * N) * D.sz : Nat) : Int) ((N * D.sz : Nat) : Int) _ (by simp only [Pl.I64]; omega) (by simp only [Pl.I64]; omega) (by simp only [Pl.I64]; omega)) (by rw [secs_sl o1 (by omega) (by omega)]; rfl)) fun v w hR => ?_
    obtain ⟨rfl, hE⟩ := hR
    refine ⟨hh.ext hE, ?_⟩
    replace hm := hm.ext hE
    replace hh := hh.ext hE
    refine a_call rfl rfl rfl go46 (C.as (v := .tuple ⟨[.agg ⟨[.int .i64 (f : Int), .int .i64 ((2 * N : Nat) : Int)]⟩, .bool true]⟩) (ext_join ((f + 0 * N : Nat) : Int) (N : Int) ((f + 1 * N : Nat) : Int) (N : Int) _ (by omega) (by omega)) (by rw [show f + 0 * N = f by omega, join_sl]; rfl)) fun v w hR => ?_
    obtain ⟨rfl, hE⟩ := hR
    refine ⟨hh.ext hE, ?_⟩
    replace hm := hm.ext hE
    replace hh := hh.ext hE
    refine rw_p rfl rfl (y_move rfl) ?_
    refine rw_p rfl rfl (y_extract rfl rfl) ?_
    refine rw_p rfl rfl (y_extract rfl rfl) ?_
    refine a_storeN rfl rfl rfl rfl sz63 rfl hm 0 rfl rfl hh (.inl hg_m2) fun w hm hh => ?_
    refine rw_p rfl rfl (y_assign rfl) ?_
    refine rw_done ?_
    refine gn_sq ?_
    refine HW_seq rfl ?_
    refine HW_text (.pure 0 (.act 1 .done)) (by kernel_rfl) ?_
    refine rw_p rfl rfl (y_loadA (s := 2) (vs := [_, _]) rfl ag63 (hm.nt 0 rfl) rfl) ?_
    refine a_store rfl rfl rfl rfl sz63 rfl hm 1 rfl rfl fun w hm => ?_
    refine rw_done ?_
    refine gn_sq ?_
    refine HW_ret rfl ?_
    refine toR (fin hret rfl (.cell rfl (run_loadVar_a (vs := [_, _]) ag63 (hm.get (k := 1) rfl) rfl) .nil) .one ?_)
    exact ⟨rfl, hm.to⟩

theorem j_next (m f : Nat) (b : Int) (w0 : World) (S : Pl.Jn) (j : Nat) (k : Int) (q : Option Addr) (c : Nat) (hj : w0.heap[j]? = some (Blk.row 68 (jrow (.pointer (some ⟨m, 0, none⟩)) (f : Int) b k S q c)).toObj) : C Tryz.prog 21 [.pointer (some ⟨j, 0, none⟩)] w0 fun v w' => v = .int .u64 S.nx ∧ Ext No w0 w' := by
  refine C_of Tryz.func21 rfl rfl rfl fun κ hret hnorm => ?_
  have hm := Mem.start w0
  refine HW_seq rfl ?_
  refine HW_text (.pure 0 .done) (by kernel_rfl) ?_
  refine rw_p rfl rfl (y_assign rfl) ?_
  refine rw_done ?_
  refine gn_sq ?_
  refine HW_seq rfl ?_
  refine HW_seq rfl ?_
  refine HW_text (.pure 0 (.pure 1 .done)) (by kernel_rfl) ?_
  refine rw_p rfl rfl (y_move rfl) ?_
  refine rw_p rfl rfl (y_pnil rfl rfl pb33) ?_
  refine rw_done ?_
  refine gn_sq ?_
  refine HW_condF rfl rfl rfl ?_
  refine HW_skip rfl ?_
  refine gn_sq ?_
  refine HW_seq rfl ?_
  refine HW_text (.pure 0 (.pure 1 (.pure 2 (.pure 3 (.pure 4 .done))))) (by kernel_rfl) ?_
  refine rw_p rfl rfl (y_move rfl) ?_
  refine rw_p rfl rfl (y_nil rfl) ?_
  refine rw_p rfl rfl (y_fieldAddr rfl fo68_2) ?_
  refine rw_p rfl rfl (y_load rfl sc23 (nowT ((hm.to.same _ (Array.getElem?_eq_some_iff.1 hj).1 id).trans hj)) rfl) ?_
  refine rw_p rfl rfl (y_assign rfl) ?_
  refine rw_done ?_
  refine gn_sq ?_
  refine HW_ret rfl ?_
  refine toR (fin hret rfl (.tmp rfl .nil) .one ?_)
  exact ⟨rfl, hm.to⟩

set_option maxHeartbeats 800000 in
theorem j_last (m f : Nat) (b : Int) (k : Int) (S : Pl.Jn) (j : Nat) (Zj : List (Nat × Blk)) (w0 : World) (hO : OwnZ w0 Zj) (hj : JZ 68 5 m (f : Int) b k S j Zj) (hl : S.la.bs.length ≤ 140737488355328) : C Tryz.prog 19 [.pointer (some ⟨j, 0, none⟩)] w0 fun v w' => ∃ q c g bb, v = .tuple ⟨[.agg ⟨rcV (Pl.jla S) q (Pl.jla S).bs.length c⟩, .bool S.has]⟩ ∧ Acc 5 1 q (Pl.jla S).bs.length c ((Pl.jla S).bs.flatMap encB) g bb ∧ Mem w0 w' No [(g, bb)] := by
  obtain ⟨p_x, c_x, g_x, b_x, rfl, ha_x⟩ := hj
  have hJ := hO.get (k := 0) rfl
  have hx := ha_x.rdO hO (by simp)
  refine C_of Tryz.func19 rfl rfl rfl fun κ hret hnorm => ?_
  have hm := Mem.start w0
  refine HW_seq rfl ?_
  refine HW_text (.act 0 (.pure 1 .done)) (by kernel_rfl) ?_
  refine a_alloc rfl rfl z57 hm trivial fun m1 w hg_m1 hm hh => ?_
  refine rw_p rfl rfl (y_assign rfl) ?_
  refine rw_done ?_
  refine gn_sq ?_
  refine HW_seq rfl ?_
  refine HW_seq rfl ?_
  refine HW_text (.pure 0 (.pure 1 (.pure 2 (.pure 3 (.pure 4 (.pure 5 (.pure 6 (.pure 7 (.pure 8 .done))))))))) (by kernel_rfl) ?_
  refine rw_p rfl rfl (y_move rfl) ?_
  refine rw_p rfl rfl (y_pnil rfl rfl pb33) ?_
  refine rw_p rfl rfl (y_move rfl) ?_
  refine rw_p rfl rfl (y_move rfl) ?_
  refine rw_p rfl rfl (y_nil rfl) ?_
  refine rw_p rfl rfl (y_fieldAddr rfl fo68_4) ?_
  refine rw_p rfl rfl (y_load rfl sc4 (nowT ((hm.to.same _ (Array.getElem?_eq_some_iff.1 hJ).1 id).trans hJ)) rfl) ?_
  refine rw_p rfl rfl (y_not rfl) ?_
  refine rw_p rfl rfl (y_pickF rfl rfl) ?_
  refine rw_done ?_
  refine gn_sq ?_
  refine HW_cond rfl rfl (fun hc0 => ?_) (fun hc0 => ?_)
  ·
    simp only [Bool.not_eq_true'] at hc0
    have hjl : Pl.jla S = Pl.rc0 := by unfold Pl.jla; rw [hc0]; rfl
    refine HW_seq rfl ?_
    refine HW_text (.pure 0 (.act 1 (.pure 2 .done))) (by kernel_rfl) ?_
    refine rw_p rfl rfl (y_build (cs := [_, _, _, _, _]) z57 ft57 rfl rfl rfl rfl rfl) ?_
    refine a_store rfl rfl rfl rfl sz57 rfl hm 0 rfl rfl fun w hm => ?_
    refine rw_p rfl rfl (y_assign rfl) ?_
    refine rw_done ?_
    refine gn_sq ?_
    refine HW_ret rfl ?_
    refine gr_sq ?_
    refine toR (fin hret rfl (.cell rfl (run_loadVar_a (vs := [_, _, _, _, _]) ag57 (hm.get (k := 0) rfl) rfl) (.tmp rfl .nil)) .more ?_)
    exact ⟨none, 0, 0, .gap, by rw [hjl, hc0]; rfl, by rw [hjl]; exact .nil _ _ _ _, (hm.drop (List.nil_sublist _)).gapIn⟩
  ·
    simp only [Bool.not_eq_false'] at hc0
    have hjl : Pl.jla S = S.la := by unfold Pl.jla; rw [if_pos hc0]
    refine HW_skip rfl ?_
    refine gn_sq ?_
    refine HW_seq rfl ?_
    refine HW_text (.pure 0 (.pure 1 (.pure 2 (.pure 3 (.act 4 (.act 5 .done)))))) (by kernel_rfl) ?_
    refine rw_p rfl rfl (y_move rfl) ?_
    refine rw_p rfl rfl (y_nil rfl) ?_
    refine rw_p rfl rfl (y_fieldAddr rfl fo68_3) ?_
    refine rw_p rfl rfl (y_loadA (s := 5) (vs := [_, _, _, _, _]) rfl ag57 (nowT ((hm.to.same _ (Array.getElem?_eq_some_iff.1 hJ).1 id).trans hJ)) rfl) ?_
    refine a_alloc rfl rfl z57 hm trivial fun m2 w hg_m2 hm hh => ?_
    refine a_store rfl rfl rfl rfl sz57 rfl hm 0 rfl rfl fun w hm => ?_
    refine rw_done ?_
    refine gn_sq ?_
    refine HW_seq rfl ?_
    refine HW_text (.pure 0 (.pure 1 (.act 2 (.pure 3 (.act 4 .done))))) (by kernel_rfl) ?_
    refine rw_p rfl rfl (y_fieldAddr rfl fo57_4) ?_
    refine rw_p rfl rfl (y_load rfl sc22 (hm.nt 0 rfl) rfl) ?_
    refine a_call rfl rfl rfl go43 (clone_b p_x c_x S.la.bs _ (hx.ext0 hm.to) (by omega)) fun v w hR => ?_
    obtain ⟨p_z, cap_z, g_z, b_z, rfl, ha_z, hmc⟩ := hR
    refine ⟨trivial, ?_⟩
    have hg_z : b_z.real = true → _ := fun hr => (hmc.fresh _ List.mem_cons_self hr).resolve_left id
    replace hm := hm.callN hmc
    refine rw_p rfl rfl (y_fieldAddr rfl fo57_4) ?_
    refine a_store rfl rfl rfl rfl sz22 rfl hm 1 rfl rfl fun w hm => ?_
    refine rw_done ?_
    refine gn_sq ?_
    refine HW_seq rfl ?_
    refine HW_text (.pure 0 (.act 1 (.pure 2 .done))) (by kernel_rfl) ?_
    refine rw_p rfl rfl (y_loadA (s := 5) (vs := [_, _, _, _, _]) rfl ag57 (hm.nt 1 rfl) rfl) ?_
    refine a_store rfl rfl rfl rfl sz57 rfl hm 2 rfl rfl fun w hm => ?_
    refine rw_p rfl rfl (y_assign rfl) ?_
    refine rw_done ?_
    refine gn_sq ?_
    refine HW_ret rfl ?_
    refine toR (fin hret rfl (.cell rfl (run_loadVar_a (vs := [_, _, _, _, _]) ag57 (hm.get (k := 2) rfl) rfl) (.tmp rfl .nil)) .more ?_)
    exact ⟨p_z, cap_z, g_z, b_z, by rw [hjl, hc0]; rfl, by rw [hjl]; exact ha_z, (hm.pick [0] rfl)⟩

theorem j_regionN (w0 : World) : C Tryz.prog 22 [.pointer none] w0 fun v w' => v = .agg ⟨[.int .i64 0, .int .i64 0]⟩ ∧ Ext No w0 w' := by
  refine C_of Tryz.func22 rfl rfl rfl fun κ hret hnorm => ?_
  have hm := Mem.start w0
  refine HW_seq rfl ?_
  refine HW_text (.act 0 .done) (by kernel_rfl) ?_
  refine a_alloc rfl rfl z63 hm trivial fun m1 w hg_m1 hm hh => ?_
  refine rw_done ?_
  refine gn_sq ?_
  refine HW_seq rfl ?_
  refine HW_seq rfl ?_
  refine HW_text (.pure 0 (.pure 1 .done)) (by kernel_rfl) ?_
  refine rw_p rfl rfl (y_move rfl) ?_
  refine rw_p rfl rfl (y_pnil rfl rfl pb33) ?_
  refine rw_done ?_
  refine gn_sq ?_
  refine HW_condT rfl rfl rfl ?_
  refine HW_seq rfl ?_
  refine HW_text (.pure 0 (.act 1 .done)) (by kernel_rfl) ?_
  refine rw_p rfl rfl (y_build (cs := [_, _]) z63 ft63 rfl rfl rfl rfl rfl) ?_
  refine a_store rfl rfl rfl rfl sz63 rfl hm 0 rfl rfl fun w hm => ?_
  refine rw_done ?_
  refine gn_sq ?_
  refine HW_ret rfl ?_
  refine gr_sq ?_
  refine toR (fin hret rfl (.cell rfl (run_loadVar_a (vs := [_, _]) ag63 (hm.get (k := 0) rfl) rfl) .nil) .one ?_)
  exact ⟨rfl, hm.to⟩

theorem j_nextN (w0 : World) : C Tryz.prog 21 [.pointer none] w0 fun v w' => v = .int .u64 0 ∧ Ext No w0 w' := by
  refine C_of Tryz.func21 rfl rfl rfl fun κ hret hnorm => ?_
  have hm := Mem.start w0
  refine HW_seq rfl ?_
  refine HW_text (.pure 0 .done) (by kernel_rfl) ?_
  refine rw_p rfl rfl (y_assign rfl) ?_
  refine rw_done ?_
  refine gn_sq ?_
  refine HW_seq rfl ?_
  refine HW_seq rfl ?_
  refine HW_text (.pure 0 (.pure 1 .done)) (by kernel_rfl) ?_
  refine rw_p rfl rfl (y_move rfl) ?_
  refine rw_p rfl rfl (y_pnil rfl rfl pb33) ?_
  refine rw_done ?_
  refine gn_sq ?_
  refine HW_condT rfl rfl rfl ?_
  refine HW_seq rfl ?_
  refine HW_text (.pure 0 .done) (by kernel_rfl) ?_
  refine rw_p rfl rfl (y_assign rfl) ?_
  refine rw_done ?_
  refine gn_sq ?_
  refine HW_ret rfl ?_
  refine gr_sq ?_
  refine toR (fin hret rfl (.tmp rfl .nil) .one ?_)
  exact ⟨rfl, hm.to⟩

theorem j_lastN (w0 : World) : C Tryz.prog 19 [.pointer none] w0 fun v w' => v = .tuple ⟨[.agg ⟨[.int .u64 0, .int .u64 0, .int .i64 0, .int .i64 0, .slice none 0 0]⟩, .bool false]⟩ ∧ Ext No w0 w' := by
  refine C_of Tryz.func19 rfl rfl rfl fun κ hret hnorm => ?_
  have hm := Mem.start w0
  refine HW_seq rfl ?_
  refine HW_text (.act 0 (.pure 1 .done)) (by kernel_rfl) ?_
  refine a_alloc rfl rfl z57 hm trivial fun m1 w hg_m1 hm hh => ?_
  refine rw_p rfl rfl (y_assign rfl) ?_
  refine rw_done ?_
  refine gn_sq ?_
  refine HW_seq rfl ?_
  refine HW_seq rfl ?_
  refine HW_text (.pure 0 (.pure 1 (.pure 2 (.pure 3 (.pure 4 (.pure 5 (.pure 6 (.pure 7 (.pure 8 .done))))))))) (by kernel_rfl) ?_
  refine rw_p rfl rfl (y_move rfl) ?_
  refine rw_p rfl rfl (y_pnil rfl rfl pb33) ?_
  refine rw_p rfl rfl (y_move rfl) ?_
  refine rw_gf rfl rfl (by decide) rfl ?_
  refine rw_gf rfl rfl (by decide) rfl ?_
  refine rw_gf rfl rfl (by decide) rfl ?_
  refine rw_gf rfl rfl (by decide) rfl ?_
  refine rw_gf rfl rfl (by decide) rfl ?_
  refine rw_p rfl rfl (y_pickT rfl rfl) ?_
  refine rw_done ?_
  refine gn_sq ?_
  refine HW_condT rfl rfl rfl ?_
  refine HW_seq rfl ?_
  refine HW_text (.pure 0 (.act 1 (.pure 2 .done))) (by kernel_rfl) ?_
  refine rw_p rfl rfl (y_build (cs := [_, _, _, _, _]) z57 ft57 rfl rfl rfl rfl rfl) ?_
  refine a_store rfl rfl rfl rfl sz57 rfl hm 0 rfl rfl fun w hm => ?_
  refine rw_p rfl rfl (y_assign rfl) ?_
  refine rw_done ?_
  refine gn_sq ?_
  refine HW_ret rfl ?_
  refine gr_sq ?_
  refine toR (fin hret rfl (.cell rfl (run_loadVar_a (vs := [_, _, _, _, _]) ag57 (hm.get (k := 0) rfl) rfl) (.tmp rfl .nil)) .more ?_)
  exact ⟨rfl, hm.to⟩

theorem j_appendN (cu of : Int) (q : Option Addr) (n cq : Nat) (w0 : World) : C Tryz.prog 11 [.pointer none, .int .i64 cu, .int .i64 of, .slice q n cq] w0 fun v w' => v = .int .i64 1 ∧ Ext No w0 w' := by
  refine C_of Tryz.func11 rfl rfl rfl fun κ hret hnorm => ?_
  have hm := Mem.start w0
  refine HW_seq rfl ?_
  refine HW_text (.pure 0 .done) (by kernel_rfl) ?_
  refine rw_p rfl rfl (y_assign rfl) ?_
  refine rw_done ?_
  refine gn_sq ?_
  refine HW_seq rfl ?_
  refine HW_seq rfl ?_
  refine HW_text (.pure 0 (.pure 1 .done)) (by kernel_rfl) ?_
  refine rw_p rfl rfl (y_move rfl) ?_
  refine rw_p rfl rfl (y_pnil rfl rfl pb33) ?_
  refine rw_done ?_
  refine gn_sq ?_
  refine HW_condT rfl rfl rfl ?_
  refine HW_seq rfl ?_
  refine HW_text (.pure 0 .done) (by kernel_rfl) ?_
  refine rw_p rfl rfl (y_assign rfl) ?_
  refine rw_done ?_
  refine gn_sq ?_
  refine HW_ret rfl ?_
  refine gr_sq ?_
  refine toR (fin hret rfl (.tmp rfl .nil) .one ?_)
  exact ⟨rfl, hm.to⟩

theorem j_openN (f b k : Int) (hb : Pl.I64 b) (w0 : World) : C Tryz.prog 7 [.pointer none, .int .i64 f, .int .i64 b, .int .u64 k] w0 fun v w' => v = .tuple ⟨[.pointer none, .int .i64 1]⟩ ∧ Ext No w0 w' := by
  refine C_of Tryz.func7 rfl rfl rfl fun κ hret hnorm => ?_
  have hm := Mem.start w0
  refine HW_seq rfl ?_
  refine HW_text (.act 0 (.pure 1 (.pure 2 .done))) (by kernel_rfl) ?_
  refine a_box rfl rfl rfl rfl hm trivial fun m1 w hg_m1 hm hh => ?_
  refine rw_p rfl rfl (y_assign rfl) ?_
  refine rw_p rfl rfl (y_assign rfl) ?_
  refine rw_done ?_
  refine gn_sq ?_
  refine HW_seq rfl ?_
  refine HW_text (.pure 0 (.pure 1 (.pure 2 (.pure 3 (.pure 4 (.pure 5 (.act 6 (.act 7 (.act 8 .done))))))))) (by kernel_rfl) ?_
  refine rw_p rfl rfl (y_load rfl sc27 (hm.nt 0 rfl) rfl) ?_
  refine rw_p rfl rfl (y_move rfl) ?_
  refine rw_p rfl rfl (y_move rfl) ?_
  refine rw_p rfl rfl (y_build (cs := [_, _, _]) z66 ft66 rfl rfl rfl rfl rfl) ?_
  refine rw_p rfl rfl (y_move rfl) ?_
  refine rw_p rfl rfl (y_build (cs := [_, _, _, _, _, _, _, _, _, _, _]) z68 ft68 rfl rfl rfl rfl rfl) ?_
  refine a_box rfl rfl rfl rfl hm trivial fun m2 w hg_m2 hm hh => ?_
  refine a_alloc rfl rfl z33 hm trivial fun m3 w hg_m3 hm hh => ?_
  refine a_store rfl rfl rfl rfl sz33 rfl hm 0 rfl rfl fun w hm => ?_
  refine rw_done ?_
  refine gn_sq ?_
  refine HW_seq rfl ?_
  refine HW_seq rfl ?_
  refine HW_text (.pure 0 (.pure 1 (.pure 2 (.pure 3 (.act 4 (.pure 5 .done)))))) (by kernel_rfl) ?_
  refine rw_p rfl rfl (y_load rfl sc33 (hm.nt 0 rfl) rfl) ?_
  refine rw_p rfl rfl (y_nil rfl) ?_
  refine rw_p rfl rfl (y_fieldAddr rfl fo68_0) ?_
  refine rw_p rfl rfl (y_loadA (s := 3) (vs := [_, _, _]) rfl ag66 (hm.nt 1 rfl) rfl) ?_
  refine a_call rfl rfl rfl go23 (jr_checkN f b hb _) fun v w hR => ?_
  obtain ⟨rfl, hE⟩ := hR
  refine ⟨trivial, ?_⟩
  replace hm := hm.ext hE
  refine rw_p rfl rfl (y_assign rfl) ?_
  refine rw_done ?_
  refine gn_sq ?_
  refine HW_seq rfl ?_
  refine HW_text (.pure 0 (.pure 1 .done)) (by kernel_rfl) ?_
  refine rw_p rfl rfl (y_move rfl) ?_
  refine rw_p rfl rfl (y_as (c := true) (y_ne rfl rfl) (by decide)) ?_
  refine rw_done ?_
  refine gn_sq ?_
  refine HW_condT rfl rfl rfl ?_
  refine HW_seq rfl ?_
  refine HW_text (.pure 0 (.pure 1 (.pure 2 .done))) (by kernel_rfl) ?_
  refine rw_p rfl rfl (y_move rfl) ?_
  refine rw_p rfl rfl (y_assign rfl) ?_
  refine rw_p rfl rfl (y_assign rfl) ?_
  refine rw_done ?_
  refine gn_sq ?_
  refine HW_ret rfl ?_
  refine gr_sq ?_
  refine toR (fin hret rfl (.tmp rfl (.tmp rfl .nil)) .more ?_)
  exact ⟨rfl, hm.to⟩

theorem j_openE (D : Pl.Dv) (m : Nat) (Z : List (Nat × Blk)) (w0 : World) (hZ : OwnZ w0 Z) (hz : DevZ 107 157 5 D m Z) (f b k : Int) (hf : Pl.I64 f) (hb : Pl.I64 b) (hc : Pl.jcheck D f b ≠ 0) : C Tryz.prog 7 [.pointer (some ⟨m, 0, none⟩), .int .i64 f, .int .i64 b, .int .u64 k] w0 fun v w' => v = .tuple ⟨[.pointer none, .int .i64 (Pl.jcheck D f b)]⟩ ∧ Ext No w0 w' := by
  refine C_of Tryz.func7 rfl rfl rfl fun κ hret hnorm => ?_
  have hm := Mem.start w0
  refine HW_seq rfl ?_
  refine HW_text (.act 0 (.pure 1 (.pure 2 .done))) (by kernel_rfl) ?_
  refine a_box rfl rfl rfl rfl hm trivial fun m1 w hg_m1 hm hh => ?_
  refine rw_p rfl rfl (y_assign rfl) ?_
  refine rw_p rfl rfl (y_assign rfl) ?_
  refine rw_done ?_
  refine gn_sq ?_
  refine HW_seq rfl ?_
  refine HW_text (.pure 0 (.pure 1 (.pure 2 (.pure 3 (.pure 4 (.pure 5 (.act 6 (.act 7 (.act 8 .done))))))))) (by kernel_rfl) ?_
  refine rw_p rfl rfl (y_load rfl sc27 (hm.nt 0 rfl) rfl) ?_
  refine rw_p rfl rfl (y_move rfl) ?_
  refine rw_p rfl rfl (y_move rfl) ?_
  refine rw_p rfl rfl (y_build (cs := [_, _, _]) z66 ft66 rfl rfl rfl rfl rfl) ?_
  refine rw_p rfl rfl (y_move rfl) ?_
  refine rw_p rfl rfl (y_build (cs := [_, _, _, _, _, _, _, _, _, _, _]) z68 ft68 rfl rfl rfl rfl rfl) ?_
  refine a_box rfl rfl rfl rfl hm trivial fun m2 w hg_m2 hm hh => ?_
  refine a_alloc rfl rfl z33 hm trivial fun m3 w hg_m3 hm hh => ?_
  refine a_store rfl rfl rfl rfl sz33 rfl hm 0 rfl rfl fun w hm => ?_
  refine rw_done ?_
  refine gn_sq ?_
  refine HW_seq rfl ?_
  refine HW_seq rfl ?_
  refine HW_text (.pure 0 (.pure 1 (.pure 2 (.pure 3 (.act 4 (.pure 5 .done)))))) (by kernel_rfl) ?_
  refine rw_p rfl rfl (y_load rfl sc33 (hm.nt 0 rfl) rfl) ?_
  refine rw_p rfl rfl (y_nil rfl) ?_
  refine rw_p rfl rfl (y_fieldAddr rfl fo68_0) ?_
  refine rw_p rfl rfl (y_loadA (s := 3) (vs := [_, _, _]) rfl ag66 (hm.nt 1 rfl) rfl) ?_
  refine a_call rfl rfl rfl go23 (jr_check D m Z _ (hZ.ext hm.to) hz f b hf hb) fun v w hR => ?_
  obtain ⟨rfl, hE⟩ := hR
  refine ⟨trivial, ?_⟩
  replace hm := hm.ext hE
  refine rw_p rfl rfl (y_assign rfl) ?_
  refine rw_done ?_
  refine gn_sq ?_
  refine HW_seq rfl ?_
  refine HW_text (.pure 0 (.pure 1 .done)) (by kernel_rfl) ?_
  refine rw_p rfl rfl (y_move rfl) ?_
  refine rw_p rfl rfl (y_as (c := true) (y_ne rfl rfl) (decide_eq_true hc)) ?_
  refine rw_done ?_
  refine gn_sq ?_
  refine HW_condT rfl rfl rfl ?_
  refine HW_seq rfl ?_
  refine HW_text (.pure 0 (.pure 1 (.pure 2 .done))) (by kernel_rfl) ?_
  refine rw_p rfl rfl (y_move rfl) ?_
  refine rw_p rfl rfl (y_assign rfl) ?_
  refine rw_p rfl rfl (y_assign rfl) ?_
  refine rw_done ?_
  refine gn_sq ?_
  refine HW_ret rfl ?_
  refine gr_sq ?_
  refine toR (fin hret rfl (.tmp rfl (.tmp rfl .nil)) .more ?_)
  exact ⟨rfl, hm.to⟩

end Go.Proofs.YthailbggeafckaaGreat
