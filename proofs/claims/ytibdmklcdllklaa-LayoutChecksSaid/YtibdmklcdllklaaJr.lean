/- Contracts of functions of the program: what each returns. Conditions: the hypotheses of each theorem. -/
import Derived.Test.YtibdmklcdllklaaLawB
import Derived.Test.YtibdmklcdllklaaFio
import Derived.Test.YtibdmklcdllklaaWire
set_option linter.unusedVariables false
set_option linter.unusedSimpArgs false
namespace Go.Proofs.Ytibdmklcdllklaa
open Go Go.Cx

theorem fo90_0 : fldO Try.prog 90 0 = some 0 := by kernel_rfl
theorem fo90_2 : fldO Try.prog 90 2 = some 2 := by kernel_rfl
theorem ag90 : aggS Try.prog 90 = some 3 := by kernel_rfl
theorem fo90_1 : fldO Try.prog 90 1 = some 1 := by kernel_rfl
theorem go49 : isGo Try.prog 49 = true := by kernel_rfl
theorem sb96 : slcB Try.prog 96 = true := by kernel_rfl
theorem sl96 : slcO Try.prog 96 = some (92, 5, 56) := by kernel_rfl
theorem go73 : isGo Try.prog 73 = true := by kernel_rfl
theorem ag92 : aggS Try.prog 92 = some 5 := by kernel_rfl
theorem sz92 : szO Try.prog 92 = some 5 := by kernel_rfl
theorem z92 : zer Try.prog 92 = some [.int .u64 0, .int .u64 0, .int .i64 0, .int .i64 0, .slice none 0 0] := by kernel_rfl
theorem cb46 : slB8 Try.prog 46 = true := by kernel_rfl
theorem ft92 : fldT Try.prog 92 = some [(0, 1), (1, 1), (2, 1), (3, 1), (4, 1)] := by kernel_rfl
theorem go53 : isGo Try.prog 53 = true := by kernel_rfl
theorem go54 : isGo Try.prog 54 = true := by kernel_rfl
theorem fo92_4 : fldO Try.prog 92 4 = some 4 := by kernel_rfl
theorem go59 : isGo Try.prog 59 = true := by kernel_rfl
theorem go60 : isGo Try.prog 60 = true := by kernel_rfl
theorem go61 : isGo Try.prog 61 = true := by kernel_rfl
theorem fo94_0 : fldO Try.prog 94 0 = some 0 := by kernel_rfl
theorem go40 : isGo Try.prog 40 = true := by kernel_rfl
theorem go41 : isGo Try.prog 41 = true := by kernel_rfl
theorem go42 : isGo Try.prog 42 = true := by kernel_rfl
theorem sc63 : scal Try.prog 63 = true := by kernel_rfl
theorem fo94_3 : fldO Try.prog 94 3 = some 5 := by kernel_rfl
theorem fo94_4 : fldO Try.prog 94 4 = some 10 := by kernel_rfl
theorem ft90 : fldT Try.prog 90 = some [(0, 1), (1, 1), (2, 1)] := by kernel_rfl
theorem ft94 : fldT Try.prog 94 = some [(0, 3), (3, 1), (4, 1), (5, 5), (10, 1)] := by kernel_rfl
theorem go38 : isGo Try.prog 38 = true := by kernel_rfl
theorem go43 : isGo Try.prog 43 = true := by kernel_rfl
theorem sc96 : scal Try.prog 96 = true := by kernel_rfl
theorem sz4 : szO Try.prog 4 = some 1 := by kernel_rfl
theorem sz63 : szO Try.prog 63 = some 1 := by kernel_rfl
theorem z63 : zer Try.prog 63 = some [.pointer none] := by kernel_rfl
theorem z90 : zer Try.prog 90 = some [.pointer none, .int .i64 0, .int .i64 0] := by kernel_rfl
theorem z94 : zer Try.prog 94 = some [.pointer none, .int .i64 0, .int .i64 0, .int .u64 0, .int .u64 0, .int .u64 0, .int .u64 0, .int .i64 0, .int .i64 0, .slice none 0 0, .bool false] := by kernel_rfl
theorem z96 : zer Try.prog 96 = some [.slice none 0 0] := by kernel_rfl
theorem go39 : isGo Try.prog 39 = true := by kernel_rfl

theorem jr_length (D : Pl.Dv) (m : Nat) (Z : List (Nat × Blk)) (w0 : World) (hZ : OwnZ w0 Z) (hz : DevZ 87 133 5 D m Z) (f b : Int) (hb : Pl.I64 b) : C Try.prog 49 [.agg ⟨[.pointer (some ⟨m, 0, none⟩), .int .i64 f, .int .i64 b]⟩] w0 fun v w' => v = .int .i64 (Pl.slot (D.sz : Int) b) ∧ Ext No w0 w' := by
  have hok := hz.ok
  have o1 := hok.sz
  have o4 := hok.max
  have o3 := hok.cnt
  have o5 : D.cnt ≤ D.cnt * D.sz := Nat.le_mul_of_pos_right _ o1
  have o7 : D.sz ≤ D.cnt * D.sz := Nat.le_mul_of_pos_left _ o3
  refine C_of Try.func49 rfl rfl rfl fun κ hret hnorm => ?_
  have hm := Mem.start w0
  refine HW_seq rfl ?_
  refine HW_text (.act 0 (.pure 1 .done)) (by kernel_rfl) ?_
  refine a_box rfl rfl rfl rfl hm trivial fun m1 w hg_m1 hm hh => ?_
  refine rw_p rfl rfl (y_assign rfl) ?_
  refine rw_done ?_
  refine gn_sq ?_
  refine HW_seq rfl ?_
  refine HW_draw (.pure 0 (.pure 1 (.pure 3 (.pure 4 (.act 2 (.cut (.act 5 (.pure 6 .done)))))))) No mix (by kernel_rfl) hm fun w hw hm0 hh => ?_
  have hm := hm0
  refine rw_p rfl rfl (y_fieldAddr rfl fo90_0) ?_
  refine rw_p rfl rfl (y_load rfl sc47 (hm0.nd 0 rfl id) rfl) ?_
  refine rw_p rfl rfl (y_fieldAddr rfl fo90_2) ?_
  refine rw_p rfl rfl (y_load rfl sc3 (hm0.nd 0 rfl id) rfl) ?_
  refine a_call rfl rfl rfl go35 (o_size D m Z _ (hZ.ext hm.to) hz) fun v w hR => ?_
  obtain ⟨rfl, hE⟩ := hR
  refine ⟨hh.ext hE, ?_⟩
  replace hm := hm.ext hE
  replace hh := hh.ext hE
  refine a_cut ?_
  refine a_call rfl rfl rfl go22 (j_slot (D.sz : Int) b _ (by simp only [Pl.I64]; omega) hb) fun v w hR => ?_
  obtain ⟨rfl, hE⟩ := hR
  refine ⟨trivial, ?_⟩
  replace hm := hm.ext hE
  refine rw_p rfl rfl (y_assign rfl) ?_
  refine rw_done ?_
  refine gn_sq ?_
  refine HW_ret rfl ?_
  refine toR (fin hret rfl (.tmp rfl .nil) .one ?_)
  exact ⟨rfl, hm.to⟩

theorem jr_check (D : Pl.Dv) (m : Nat) (Z : List (Nat × Blk)) (w0 : World) (hZ : OwnZ w0 Z) (hz : DevZ 87 133 5 D m Z) (f N : Nat) (b : Int) (hb : Pl.I64 b) (hN : Pl.slot (D.sz : Int) b = (N : Int)) (h0 : N ≠ 0) (h2 : f + 2 * N ≤ D.cnt) : C Try.prog 38 [.agg ⟨[.pointer (some ⟨m, 0, none⟩), .int .i64 (f : Int), .int .i64 b]⟩] w0 fun v w' => v = .int .i64 0 ∧ Ext No w0 w' := by
  have hok := hz.ok
  have o1 := hok.sz
  have o4 := hok.max
  have o3 := hok.cnt
  have o5 : D.cnt ≤ D.cnt * D.sz := Nat.le_mul_of_pos_right _ o1
  have o7 : D.sz ≤ D.cnt * D.sz := Nat.le_mul_of_pos_left _ o3
  refine C_of Try.func38 rfl rfl rfl fun κ hret hnorm => ?_
  have hm := Mem.start w0
  refine HW_seq rfl ?_
  refine HW_text (.act 0 (.pure 1 .done)) (by kernel_rfl) ?_
  refine a_box rfl rfl rfl rfl hm trivial fun m1 w hg_m1 hm hh => ?_
  refine rw_p rfl rfl (y_assign rfl) ?_
  refine rw_done ?_
  refine gn_sq ?_
  refine HW_seq rfl ?_
  refine HW_seq rfl ?_
  refine HW_text (.pure 0 (.act 1 (.pure 2 .done))) (by kernel_rfl) ?_
  refine rw_p rfl rfl (y_loadA (s := 3) (vs := [_, _, _]) rfl ag90 (hm.nt 0 rfl) rfl) ?_
  refine a_call rfl rfl rfl go49 (C.as (v := .int .i64 (N : Int)) (jr_length D m Z _ (hZ.ext hm.to) hz (f : Int) b hb) (by rw [hN])) fun v w hR => ?_
  obtain ⟨rfl, hE⟩ := hR
  refine ⟨trivial, ?_⟩
  replace hm := hm.ext hE
  refine rw_p rfl rfl (y_assign rfl) ?_
  refine rw_done ?_
  refine gn_sq ?_
  refine HW_block rfl ?_
  refine HW_seq rfl ?_
  refine HW_text (.pure 0 (.pure 1 (.pure 2 (.pure 3 .done)))) (by kernel_rfl) ?_
  refine rw_p rfl rfl (y_fieldAddr rfl fo90_0) ?_
  refine rw_p rfl rfl (y_load rfl sc47 (hm.nt 0 rfl) rfl) ?_
  refine rw_p rfl rfl (y_pnil rfl rfl pb47) ?_
  refine rw_p rfl rfl (y_assign rfl) ?_
  refine rw_done ?_
  refine gn_sq ?_
  refine HW_condF rfl rfl rfl ?_
  refine HW_seq rfl ?_
  refine HW_text (.pure 0 (.pure 1 (.pure 2 .done))) (by kernel_rfl) ?_
  refine rw_p rfl rfl (y_move rfl) ?_
  refine rw_p rfl rfl (y_as (c := false) (y_eq rfl rfl) (decide_eq_false (by omega))) ?_
  refine rw_p rfl rfl (y_assign rfl) ?_
  refine rw_done ?_
  refine gn_sq ?_
  refine HW_condF rfl rfl rfl ?_
  refine HW_seq rfl ?_
  refine HW_draw (.pure 0 (.pure 1 (.pure 2 (.pure 3 (.pure 4 (.pure 5 (.pure 6 (.pure 7 (.act 8 (.pure 9 (.pure 10 (.pure 11 (.pure 12 (.pure 13 (.pure 15 (.pure 16 (.pure 18 (.pure 19 (.act 14 (.pure 17 (.pure 20 (.pure 21 (.pure 22 .done))))))))))))))))))))))) No mix (by kernel_rfl) hm fun w hw hm0 hh => ?_
  have hm := hm0
  refine rw_p rfl rfl (y_fieldAddr rfl fo90_1) ?_
  refine rw_p rfl rfl (y_load rfl sc3 (hm0.nd 0 rfl id) rfl) ?_
  refine rw_p rfl rfl (y_as (c := false) (y_lt rfl rfl) (decide_eq_false (by omega))) ?_
  refine rw_p rfl rfl (y_move rfl) ?_
  refine rw_p rfl rfl (y_fieldAddr rfl fo90_1) ?_
  refine rw_p rfl rfl (y_load rfl sc3 (hm0.nd 0 rfl id) rfl) ?_
  refine rw_p rfl rfl (y_fieldAddr rfl fo90_0) ?_
  refine rw_p rfl rfl (y_load rfl sc47 (hm0.nd 0 rfl id) rfl) ?_
  refine a_call rfl rfl rfl go16 (o_sectors D m Z _ (hZ.ext hm.to) hz) fun v w hR => ?_
  obtain ⟨rfl, hE⟩ := hR
  refine ⟨hh.ext hE, ?_⟩
  replace hm := hm.ext hE
  replace hh := hh.ext hE
  refine rw_p rfl rfl (y_as (c := false) (y_gt rfl rfl) (decide_eq_false (by omega))) ?_
  refine rw_p rfl rfl (y_pickF rfl rfl) ?_
  refine rw_p rfl rfl (y_move rfl) ?_
  refine rw_p rfl rfl (y_fieldAddr rfl fo90_0) ?_
  refine rw_p rfl rfl (y_load rfl sc47 (hm0.nd 0 rfl id) rfl) ?_
  refine rw_p rfl rfl (y_fieldAddr rfl fo90_1) ?_
  refine rw_p rfl rfl (y_load rfl sc3 (hm0.nd 0 rfl id) rfl) ?_
  refine rw_p rfl rfl (y_move rfl) ?_
  refine rw_p rfl rfl (y_mul rfl rfl (i64w (by omega) (by omega))) ?_
  refine a_call rfl rfl rfl go16 (o_sectors D m Z _ (hZ.ext hm.to) hz) fun v w hR => ?_
  obtain ⟨rfl, hE⟩ := hR
  refine ⟨hh.ext hE, ?_⟩
  replace hm := hm.ext hE
  replace hh := hh.ext hE
  refine rw_p rfl rfl (y_sub rfl rfl (i64w (by omega) (by omega))) ?_
  refine rw_p rfl rfl (y_as (c := false) (y_lt rfl rfl) (decide_eq_false (by omega))) ?_
  refine rw_p rfl rfl (y_pickF rfl rfl) ?_
  refine rw_p rfl rfl (y_assign rfl) ?_
  refine rw_done ?_
  refine gn_sq ?_
  refine HW_condF rfl rfl rfl ?_
  refine HW_skip rfl ?_
  refine gn_bl ?_
  refine gn_sq ?_
  refine HW_seq rfl ?_
  refine HW_text (.pure 0 .done) (by kernel_rfl) ?_
  refine rw_p rfl rfl (y_assign rfl) ?_
  refine rw_done ?_
  refine gn_sq ?_
  refine HW_ret rfl ?_
  refine toR (fin hret rfl (.tmp rfl .nil) .one ?_)
  exact ⟨rfl, hm.to⟩

set_option maxHeartbeats 800000 in
theorem jr_slot (D : Pl.Dv) (m : Nat) (Z : List (Nat × Blk)) (w0 : World) (hZ : OwnZ w0 Z) (hz : DevZ 87 133 5 D m Z) (f N : Nat) (b : Int) (hb : Pl.I64 b) (hN : Pl.slot (D.sz : Int) b = (N : Int)) (i : Nat) (hin : f + i * N + N ≤ D.cnt) : C Try.prog 41 [.agg ⟨[.pointer (some ⟨m, 0, none⟩), .int .i64 (f : Int), .int .i64 b]⟩, .int .i64 (i : Int)] w0 fun v w' => v = .agg ⟨[.int .i64 (((f + i * N) * D.sz : Nat) : Int), .int .i64 ((N * D.sz : Nat) : Int)]⟩ ∧ Ext No w0 w' := by
  have hok := hz.ok
  have o1 := hok.sz
  have o4 := hok.max
  have o3 := hok.cnt
  have o5 : D.cnt ≤ D.cnt * D.sz := Nat.le_mul_of_pos_right _ o1
  have o7 : D.sz ≤ D.cnt * D.sz := Nat.le_mul_of_pos_left _ o3
  have e1 : (f + i * N + N) * D.sz ≤ D.cnt * D.sz := Nat.mul_le_mul_right _ hin
  rw [Nat.add_mul _ N] at e1
  refine C_of Try.func41 rfl rfl rfl fun κ hret hnorm => ?_
  have hm := Mem.start w0
  refine HW_seq rfl ?_
  refine HW_text (.act 0 (.act 1 .done)) (by kernel_rfl) ?_
  refine a_box rfl rfl rfl rfl hm trivial fun m1 w hg_m1 hm hh => ?_
  refine a_alloc rfl rfl z26 hm trivial fun m2 w hg_m2 hm hh => ?_
  refine rw_done ?_
  refine gn_sq ?_
  refine HW_seq rfl ?_
  refine HW_text (.pure 0 (.act 1 (.pure 2 .done))) (by kernel_rfl) ?_
  refine rw_p rfl rfl (y_loadA (s := 3) (vs := [_, _, _]) rfl ag90 (hm.nt 1 rfl) rfl) ?_
  refine a_call rfl rfl rfl go49 (C.as (v := .int .i64 (N : Int)) (jr_length D m Z _ (hZ.ext hm.to) hz (f : Int) b hb) (by rw [hN])) fun v w hR => ?_
  obtain ⟨rfl, hE⟩ := hR
  refine ⟨trivial, ?_⟩
  replace hm := hm.ext hE
  refine rw_p rfl rfl (y_assign rfl) ?_
  refine rw_done ?_
  refine gn_sq ?_
  refine HW_seq rfl ?_
  refine HW_draw (.pure 0 (.pure 1 (.pure 2 (.pure 3 (.pure 4 (.pure 5 (.pure 6 (.pure 7 (.pure 10 (.pure 11 (.pure 12 (.act 8 (.pure 9 (.act 13 (.pure 14 (.cut (.pure 15 (.act 16 .done)))))))))))))))))) No mix (by kernel_rfl) hm fun w hw hm0 hh => ?_
  have hm := hm0
  refine rw_p rfl rfl (y_fieldAddr rfl fo90_1) ?_
  refine rw_p rfl rfl (y_load rfl sc3 (hm0.nd 1 rfl id) rfl) ?_
  refine rw_p rfl rfl (y_move rfl) ?_
  refine rw_p rfl rfl (y_move rfl) ?_
  refine rw_p rfl rfl (y_mul rfl rfl (mulN (by omega))) ?_
  refine rw_p rfl rfl (y_add rfl rfl (addK _ (by omega))) ?_
  refine rw_p rfl rfl (y_fieldAddr rfl fo90_0) ?_
  refine rw_p rfl rfl (y_load rfl sc47 (hm0.nd 1 rfl id) rfl) ?_
  refine rw_p rfl rfl (y_move rfl) ?_
  refine rw_p rfl rfl (y_fieldAddr rfl fo90_0) ?_
  refine rw_p rfl rfl (y_load rfl sc47 (hm0.nd 1 rfl id) rfl) ?_
  refine a_call rfl rfl rfl go35 (o_size D m Z _ (hZ.ext hm.to) hz) fun v w hR => ?_
  obtain ⟨rfl, hE⟩ := hR
  refine ⟨hh.ext hE, ?_⟩
  replace hm := hm.ext hE
  replace hh := hh.ext hE
  refine rw_p rfl rfl (y_mul rfl rfl (mulN (by omega))) ?_
  refine a_call rfl rfl rfl go35 (o_size D m Z _ (hZ.ext hm.to) hz) fun v w hR => ?_
  obtain ⟨rfl, hE⟩ := hR
  refine ⟨hh.ext hE, ?_⟩
  replace hm := hm.ext hE
  replace hh := hh.ext hE
  refine rw_p rfl rfl (y_mul rfl rfl (mulN (by omega))) ?_
  refine a_cut ?_
  refine rw_p rfl rfl (y_build (cs := [_, _]) z26 ft26 rfl rfl rfl rfl rfl) ?_
  refine a_store rfl rfl rfl rfl sz26 rfl hm 0 rfl rfl fun w hm => ?_
  refine rw_done ?_
  refine gn_sq ?_
  refine HW_ret rfl ?_
  refine toR (fin hret rfl (.cell rfl (run_loadVar_a (vs := [_, _]) ag26 (hm.get (k := 0) rfl) rfl) .nil) .one ?_)
  exact ⟨rfl, hm.to⟩

theorem rcs_clone0 (w0 : World) : C Try.prog 61 [.slice none 0 0] w0 fun v w' => v = .slice none 0 0 ∧ Ext No w0 w' := by
  refine C_of Try.func61 rfl rfl rfl fun κ hret hnorm => ?_
  have hm := Mem.start w0
  refine HW_seq rfl ?_
  refine HW_text (.pure 0 .done) (by kernel_rfl) ?_
  refine rw_p rfl rfl (y_assign rfl) ?_
  refine rw_done ?_
  refine gn_sq ?_
  refine HW_seq rfl ?_
  refine HW_seq rfl ?_
  refine HW_text (.pure 0 (.pure 1 .done)) (by kernel_rfl) ?_
  refine rw_p rfl rfl (y_move rfl) ?_
  refine rw_p rfl rfl (y_as (c := true) (y_snil rfl rfl sb96) (by decide)) ?_
  refine rw_done ?_
  refine gn_sq ?_
  refine HW_condT rfl rfl rfl ?_
  refine HW_seq rfl ?_
  refine HW_text (.pure 0 .done) (by kernel_rfl) ?_
  refine rw_p rfl rfl (y_assign rfl) ?_
  refine rw_done ?_
  refine gn_sq ?_
  refine HW_ret rfl ?_
  refine gr_sq ?_
  refine toR (fin hret rfl (.tmp rfl .nil) .one ?_)
  exact ⟨rfl, hm.to⟩

theorem rcs_idx0 (x : Value) (w0 : World) : C Try.prog 73 [.slice none 0 0, x] w0 fun v w' => v = .int .i64 (-1) ∧ Ext No w0 w' := by
  refine C_of Try.func73 rfl rfl rfl fun κ hret hnorm => ?_
  have hm := Mem.start w0
  refine HW_seq rfl ?_
  refine HW_text (.pure 0 .done) (by kernel_rfl) ?_
  refine rw_p rfl rfl (y_assign rfl) ?_
  refine rw_done ?_
  refine gn_sq ?_
  refine HW_seq rfl ?_
  refine HW_seq rfl ?_
  refine HW_text (.pure 0 (.pure 1 (.pure 2 .done))) (by kernel_rfl) ?_
  refine rw_p rfl rfl (y_move rfl) ?_
  refine rw_p rfl rfl (y_len rfl rfl sl96) ?_
  refine rw_p rfl rfl (y_move rfl) ?_
  refine rw_done ?_
  refine gn_sq ?_
  refine HW_block rfl ?_
  refine HW_loopK (ι := Unit) rfl (ks := [0, 1, 7]) (.cons rfl (.cons rfl (.cons rfl .nil))) (fun u => [(8, .int .i64 0)]) (fun u w => Mem w0 w No [] ∧ True) (fun u => 0) () (⟨hm, trivial⟩) ⟨rfl, trivial⟩ (fun u w hM => ?_)
  obtain ⟨hm, -⟩ := hM
  refine HW_seq rfl ?_
  refine HW_text (.pure 0 .done) (by kernel_rfl) ?_
  refine rw_p rfl rfl (y_as (c := false) (y_lt rfl rfl) (by decide)) ?_
  refine rw_done ?_
  refine gn_sq ?_
  refine HW_seq rfl ?_
  refine HW_condF rfl rfl rfl ?_
  refine HW_exit rfl ?_
  refine gx_sq (gx_lp ?_)
  refine gx_here ?_
  refine gn_sq ?_
  refine HW_seq rfl ?_
  refine HW_text (.pure 0 .done) (by kernel_rfl) ?_
  refine rw_p rfl rfl (y_assign rfl) ?_
  refine rw_done ?_
  refine gn_sq ?_
  refine HW_ret rfl ?_
  refine toR (fin hret rfl (.tmp rfl .nil) .one ?_)
  exact ⟨rfl, hm.to⟩

theorem rcs_del0 (x : Value) (w0 : World) : C Try.prog 60 [.slice none 0 0, x] w0 fun v w' => v = .slice none 0 0 ∧ Ext No w0 w' := by
  refine C_of Try.func60 rfl rfl rfl fun κ hret hnorm => ?_
  have hm := Mem.start w0
  refine HW_seq rfl ?_
  refine HW_text (.pure 0 .done) (by kernel_rfl) ?_
  refine rw_p rfl rfl (y_assign rfl) ?_
  refine rw_done ?_
  refine gn_sq ?_
  refine HW_seq rfl ?_
  refine HW_text (.pure 0 (.pure 1 (.act 2 (.pure 3 .done)))) (by kernel_rfl) ?_
  refine rw_p rfl rfl (y_move rfl) ?_
  refine rw_p rfl rfl (y_move rfl) ?_
  refine a_call rfl rfl rfl go73 (rcs_idx0 x _) fun v w hR => ?_
  obtain ⟨rfl, hE⟩ := hR
  refine ⟨trivial, ?_⟩
  replace hm := hm.ext hE
  refine rw_p rfl rfl (y_assign rfl) ?_
  refine rw_done ?_
  refine gn_sq ?_
  refine HW_seq rfl ?_
  refine HW_seq rfl ?_
  refine HW_text (.pure 0 (.pure 1 .done)) (by kernel_rfl) ?_
  refine rw_p rfl rfl (y_move rfl) ?_
  refine rw_p rfl rfl (y_as (c := true) (y_eq rfl rfl) (by decide)) ?_
  refine rw_done ?_
  refine gn_sq ?_
  refine HW_condT rfl rfl rfl ?_
  refine HW_seq rfl ?_
  refine HW_text (.pure 0 (.pure 1 .done)) (by kernel_rfl) ?_
  refine rw_p rfl rfl (y_move rfl) ?_
  refine rw_p rfl rfl (y_assign rfl) ?_
  refine rw_done ?_
  refine gn_sq ?_
  refine HW_ret rfl ?_
  refine gr_sq ?_
  refine toR (fin hret rfl (.tmp rfl .nil) .one ?_)
  exact ⟨rfl, hm.to⟩

theorem rcs_great0 (w0 : World) : C Try.prog 59 [.slice none 0 0] w0 fun v w' => v = .tuple ⟨[.agg ⟨[.int .u64 0, .int .u64 0, .int .i64 0, .int .i64 0, .slice none 0 0]⟩, .bool false]⟩ ∧ Ext No w0 w' := by
  refine C_of Try.func59 rfl rfl rfl fun κ hret hnorm => ?_
  have hm := Mem.start w0
  refine HW_seq rfl ?_
  refine HW_text (.act 0 (.pure 1 .done)) (by kernel_rfl) ?_
  refine a_alloc rfl rfl z92 hm trivial fun m1 w hg_m1 hm hh => ?_
  refine rw_p rfl rfl (y_assign rfl) ?_
  refine rw_done ?_
  refine gn_sq ?_
  refine HW_seq rfl ?_
  refine HW_text (.act 0 .done) (by kernel_rfl) ?_
  refine a_alloc rfl rfl z92 hm trivial fun m2 w hg_m2 hm hh => ?_
  refine rw_done ?_
  refine gn_sq ?_
  refine HW_seq rfl ?_
  refine HW_seq rfl ?_
  refine HW_text (.pure 0 (.pure 1 (.pure 2 .done))) (by kernel_rfl) ?_
  refine rw_p rfl rfl (y_move rfl) ?_
  refine rw_p rfl rfl (y_len rfl rfl sl96) ?_
  refine rw_p rfl rfl (y_move rfl) ?_
  refine rw_done ?_
  refine gn_sq ?_
  refine HW_block rfl ?_
  refine HW_loopK (ι := Unit) rfl (ks := [0, 2, 3, 4, 7, 8]) (.cons rfl (.cons rfl (.cons rfl (.cons rfl (.cons rfl (.cons rfl .nil)))))) (fun u => [(9, .int .i64 0)]) (fun u w => Mem w0 w No [(m2, .row 92 [.int .u64 0, .int .u64 0, .int .i64 0, .int .i64 0, .slice none 0 0]), (m1, .row 92 [.int .u64 0, .int .u64 0, .int .i64 0, .int .i64 0, .slice none 0 0])] ∧ True) (fun u => 0) () (⟨(hm.pick [0, 1] rfl), trivial⟩) ⟨rfl, trivial⟩ (fun u w hM => ?_)
  obtain ⟨hm, -⟩ := hM
  refine HW_seq rfl ?_
  refine HW_text (.pure 0 .done) (by kernel_rfl) ?_
  refine rw_p rfl rfl (y_as (c := false) (y_lt rfl rfl) (by decide)) ?_
  refine rw_done ?_
  refine gn_sq ?_
  refine HW_seq rfl ?_
  refine HW_condF rfl rfl rfl ?_
  refine HW_exit rfl ?_
  refine gx_sq (gx_lp ?_)
  refine gx_here ?_
  refine gn_sq ?_
  refine HW_seq rfl ?_
  refine HW_text (.pure 0 (.pure 1 (.pure 2 (.pure 3 (.act 4 (.pure 5 .done)))))) (by kernel_rfl) ?_
  refine rw_p rfl rfl (y_loadA (s := 5) (vs := [_, _, _, _, _]) rfl ag92 (hm.nt 0 rfl) rfl) ?_
  refine rw_p rfl rfl (y_move rfl) ?_
  refine rw_p rfl rfl (y_len rfl rfl sl96) ?_
  refine rw_p rfl rfl (y_as (c := false) (y_gt rfl rfl) (by decide)) ?_
  refine a_store rfl rfl rfl rfl sz92 rfl hm 1 rfl rfl fun w hm => ?_
  refine rw_p rfl rfl (y_assign rfl) ?_
  refine rw_done ?_
  refine gn_sq ?_
  refine HW_ret rfl ?_
  refine toR (fin hret rfl (.cell rfl (run_loadVar_a (vs := [_, _, _, _, _]) ag92 (hm.get (k := 1) rfl) rfl) (.tmp rfl .nil)) .more ?_)
  exact ⟨rfl, hm.to⟩

set_option maxHeartbeats 800000 in
theorem rec_dec0 (p : Option Addr) (cap : Nat) (bs : List UInt8) (w0 : World) (hx : Rd w0 p (bs.flatMap encB)) (hle : bs.length ≤ cap) (hsp : cap ≠ 0 → ∀ ad, p = some ad → ad.spot = none) (hl : bs.length ≤ 140737488355328) (hmg : (Pl.rexpect (bs.take 40) ⟨0, 0, 0⟩ [71, 74, 82, 49] 19).2 = false) : C Try.prog 42 [.slice p bs.length cap] w0 fun v w' => v = .tuple ⟨[.agg ⟨[.int .u64 0, .int .u64 0, .int .i64 0, .int .i64 0, .slice none 0 0]⟩, .int .i64 19]⟩ ∧ Ext No w0 w' := by
  have hhl : (bs.take 40).length ≤ bs.length ∧ (bs.take 40).length ≤ 40 := by rw [List.length_take]; omega
  refine C_of Try.func42 rfl rfl rfl fun κ hret hnorm => ?_
  have hm := Mem.start w0
  refine HW_seq rfl ?_
  refine HW_text (.act 0 (.pure 1 .done)) (by kernel_rfl) ?_
  refine a_alloc rfl rfl z92 hm trivial fun m1 w hg_m1 hm hh => ?_
  refine rw_p rfl rfl (y_assign rfl) ?_
  refine rw_done ?_
  refine gn_sq ?_
  refine HW_seq rfl ?_
  refine HW_text (.pure 0 (.pure 1 (.pure 2 (.pure 3 (.pure 4 (.act 5 (.pure 6 .done))))))) (by kernel_rfl) ?_
  refine rw_p rfl rfl (y_move rfl) ?_
  refine rw_p rfl rfl (y_move rfl) ?_
  refine rw_p rfl rfl (y_len rfl rfl sl46) ?_
  refine rw_p rfl rfl (y_min rfl rfl) ?_
  refine rw_p rfl rfl (y_v (y_slice (ln := 0) (hn := (min bs.length 40)) rfl sl46 rfl ⟨_, congrArg (fun x => some (Value.int .i64 x)) (by omega)⟩ (by omega) (by omega) (fun h => hsp (by omega))) (show _ = Value.slice (slp p cap 0 1) (bs.take 40).length cap by rw [List.length_take, Nat.sub_zero, Nat.sub_zero, Nat.min_comm])) ?_
  refine a_call rfl rfl rfl go53 (w_new (slp p cap 0 1) cap (bs.take 40) _ ((hx.ext0 hm.to).takeV hle) (by omega)) fun v w hR => ?_
  obtain ⟨r, p_rb, cap_rb, g_rb, b_rb, rfl, ha_rb, hmc⟩ := hR
  refine ⟨trivial, ?_⟩
  replace hm := hm.callN hmc
  refine rw_p rfl rfl (y_assign rfl) ?_
  refine rw_done ?_
  refine gn_sq ?_
  refine HW_seq rfl ?_
  refine HW_seq rfl ?_
  refine HW_text (.pure 0 (.act 1 (.act 2 (.act 3 (.pure 4 .done))))) (by kernel_rfl) ?_
  refine rw_p rfl rfl (y_move rfl) ?_
  refine a_buildSlice (l := [_, _, _, _]) rfl rfl sl46 z5 rfl rfl rfl rfl rfl rfl rfl hm trivial fun m2 w hg_m2 hm hh => ?_
  refine a_mkd rfl rfl rfl cb46 hm 0 rfl fun w hm => ?_
  refine a_call rfl rfl rfl go54 (w_expect r _ p_rb cap_rb (bs.take 40) ⟨0, 0, 0⟩ _ 4 [71, 74, 82, 49] 19 _ (hm.get (k := 1) rfl) (ha_rb.rd hm 2 rfl) (ha_rb.apart hm 2 1 rfl rfl rfl) ha_rb.le ha_rb.spot (Nat.zero_le _) (by omega) (Rd.mkd (hm.get (k := 0) rfl)) (fun _ ad e => by cases e; exact hm.ne 0 1 rfl rfl rfl) (by decide) (by decide) (fun _ ad e => by cases e; rfl)) fun v w hR => ?_
  obtain ⟨rfl, hmc⟩ := hR
  refine ⟨trivial, ?_⟩
  replace hm := hm.callJ 1 rfl hmc
  rw [hmg]
  refine rw_p rfl rfl (y_not rfl) ?_
  refine rw_done ?_
  refine gn_sq ?_
  refine HW_condT rfl rfl rfl ?_
  refine HW_seq rfl ?_
  refine HW_text (.pure 0 (.act 1 (.pure 2 .done))) (by kernel_rfl) ?_
  refine rw_p rfl rfl (y_build (cs := [_, _, _, _, _]) z92 ft92 rfl rfl rfl rfl rfl) ?_
  refine a_store rfl rfl rfl rfl sz92 rfl hm 3 rfl rfl fun w hm => ?_
  refine rw_p rfl rfl (y_assign rfl) ?_
  refine rw_done ?_
  refine gn_sq ?_
  refine HW_ret rfl ?_
  refine gr_sq ?_
  refine toR (fin hret rfl (.cell rfl (run_loadVar_a (vs := [_, _, _, _, _]) ag92 (hm.get (k := 3) rfl) rfl) (.tmp rfl .nil)) .more ?_)
  exact ⟨rfl, hm.to⟩

theorem rec_new0 (k : Int) (w0 : World) : C Try.prog 43 [.int .u64 k, .slice none 0 0] w0 fun v w' => (∃ q c, v = .tuple ⟨[.agg ⟨[.int .u64 0, .int .u64 0, .int .i64 0, .int .i64 0, .slice q 0 c]⟩, .bool false]⟩) ∧ Ext No w0 w' := by
  refine C_of Try.func43 rfl rfl rfl fun κ hret hnorm => ?_
  have hm := Mem.start w0
  refine HW_seq rfl ?_
  refine HW_text (.act 0 (.act 1 (.pure 2 .done))) (by kernel_rfl) ?_
  refine a_box rfl rfl rfl rfl hm trivial fun m1 w hg_m1 hm hh => ?_
  refine a_alloc rfl rfl z92 hm trivial fun m2 w hg_m2 hm hh => ?_
  refine rw_p rfl rfl (y_assign rfl) ?_
  refine rw_done ?_
  refine gn_sq ?_
  refine HW_seq rfl ?_
  refine HW_text (.pure 0 (.act 1 (.pure 2 (.act 3 (.act 4 (.pure 5 (.pure 6 (.pure 7 (.act 8 (.act 9 (.pure 10 .done))))))))))) (by kernel_rfl) ?_
  refine rw_p rfl rfl (y_move rfl) ?_
  refine a_call rfl rfl rfl go61 (rcs_clone0 _) fun v w hR => ?_
  obtain ⟨rfl, hE⟩ := hR
  refine ⟨trivial, ?_⟩
  replace hm := hm.ext hE
  refine rw_p rfl rfl (y_func rfl rfl) ?_
  refine a_call rfl rfl rfl go60 (rcs_del0 _ _) fun v w hR => ?_
  obtain ⟨rfl, hE⟩ := hR
  refine ⟨trivial, ?_⟩
  replace hm := hm.ext hE
  refine a_call rfl rfl rfl go59 (rcs_great0 _) fun v w hR => ?_
  obtain ⟨rfl, hE⟩ := hR
  refine ⟨trivial, ?_⟩
  replace hm := hm.ext hE
  refine rw_p rfl rfl (y_move rfl) ?_
  refine rw_p rfl rfl (y_extract rfl rfl) ?_
  refine rw_p rfl rfl (y_extract rfl rfl) ?_
  refine a_alloc rfl rfl z92 hm trivial fun m3 w hg_m3 hm hh => ?_
  refine a_store rfl rfl rfl rfl sz92 rfl hm 0 rfl rfl fun w hm => ?_
  refine rw_p rfl rfl (y_assign rfl) ?_
  refine rw_done ?_
  refine gn_sq ?_
  refine HW_seq rfl ?_
  refine HW_text (.pure 0 (.pure 1 (.act 2 (.pure 3 (.act 4 .done))))) (by kernel_rfl) ?_
  refine rw_p rfl rfl (y_fieldAddr rfl fo92_4) ?_
  refine rw_p rfl rfl (y_load rfl sc46 (hm.nt 0 rfl) rfl) ?_
  refine a_call rfl rfl rfl go37 (clone_b none 0 [] _ rfl (by decide)) fun v w hR => ?_
  obtain ⟨p_s, cap_s, g_s, b_s, rfl, ha_s, hmc⟩ := hR
  refine ⟨trivial, ?_⟩
  have hg_s : b_s.real = true → _ := fun hr => (hmc.fresh _ List.mem_cons_self hr).resolve_left id
  replace hm := hm.callN hmc
  refine rw_p rfl rfl (y_fieldAddr rfl fo92_4) ?_
  refine a_store rfl rfl rfl rfl sz46 rfl hm 1 rfl rfl fun w hm => ?_
  refine rw_done ?_
  refine gn_sq ?_
  refine HW_seq rfl ?_
  refine HW_text (.pure 0 (.pure 1 (.act 2 (.pure 3 .done)))) (by kernel_rfl) ?_
  refine rw_p rfl rfl (y_loadA (s := 5) (vs := [_, _, _, _, _]) rfl ag92 (hm.nt 1 rfl) rfl) ?_
  refine rw_p rfl rfl (y_move rfl) ?_
  refine a_store rfl rfl rfl rfl sz92 rfl hm 2 rfl rfl fun w hm => ?_
  refine rw_p rfl rfl (y_assign rfl) ?_
  refine rw_done ?_
  refine gn_sq ?_
  refine HW_ret rfl ?_
  refine toR (fin hret rfl (.cell rfl (run_loadVar_a (vs := [_, _, _, _, _]) ag92 (hm.get (k := 2) rfl) rfl) (.tmp rfl .nil)) .more ?_)
  exact ⟨⟨_, _, rfl⟩, hm.to⟩

theorem f_readX (D : Pl.Dv) (m : Nat) (Z : List (Nat × Blk)) (w0 : World) (hZ : OwnZ w0 Z) (hz : DevZ 87 133 5 D m Z) (a b : Int) (ha : Pl.I64 a) (hb : Pl.I64 b) (hon : Pl.onD D a b = false) : C Try.prog 40 [.pointer (some ⟨m, 0, none⟩), .agg ⟨[.int .i64 a, .int .i64 b]⟩] w0 fun v w' => ∃ q c g d, v = .tuple ⟨[.slice q 0 c, .int .i64 2]⟩ ∧ Acc 5 1 q 0 c [] g d ∧ Mem w0 w' No [(g, d)] := by
  refine C_ofM Try.func40 rfl rfl rfl fun κ hret hnorm => ?_
  have hm := Mem.start w0
  refine HW_seq rfl ?_
  refine HW_text (.act 0 (.act 1 (.act 2 (.act 3 .done)))) (by kernel_rfl) ?_
  refine a_box rfl rfl rfl rfl hm trivial fun m1 w hg_m1 hm hh => ?_
  refine a_box rfl rfl rfl rfl hm trivial fun m2 w hg_m2 hm hh => ?_
  refine a_alloc rfl rfl z46 hm trivial fun m3 w hg_m3 hm hh => ?_
  refine a_alloc rfl rfl z29 hm trivial fun m4 w hg_m4 hm hh => ?_
  refine rw_done ?_
  refine gn_sq ?_
  refine HW_seq rfl ?_
  refine HW_seq rfl ?_
  refine HW_text (.pure 0 (.pure 1 (.act 2 (.pure 3 .done)))) (by kernel_rfl) ?_
  refine rw_p rfl rfl (y_load rfl sc47 (hm.nt 3 rfl) rfl) ?_
  refine rw_p rfl rfl (y_loadA (s := 2) (vs := [_, _]) rfl ag26 (hm.nt 2 rfl) rfl) ?_
  refine a_call rfl rfl rfl go50 (C.as (v := .int .i64 2) (f_check D m Z _ (hZ.ext hm.to) hz a b ha hb) (by rw [hon]; rfl)) fun v w hR => ?_
  obtain ⟨rfl, hE⟩ := hR
  refine ⟨trivial, ?_⟩
  replace hm := hm.ext hE
  refine rw_p rfl rfl (y_assign rfl) ?_
  refine rw_done ?_
  refine gn_sq ?_
  refine HW_seq rfl ?_
  refine HW_text (.pure 0 (.pure 1 .done)) (by kernel_rfl) ?_
  refine rw_p rfl rfl (y_move rfl) ?_
  refine rw_p rfl rfl (y_as (c := true) (y_ne rfl rfl) (by decide)) ?_
  refine rw_done ?_
  refine gn_sq ?_
  refine HW_condT rfl rfl rfl ?_
  refine HW_seq rfl ?_
  refine HW_text (.pure 0 (.act 1 (.act 2 .done))) (by kernel_rfl) ?_
  refine rw_p rfl rfl (y_move rfl) ?_
  refine a_store rfl rfl rfl rfl sz46 rfl hm 1 rfl rfl fun w hm => ?_
  refine a_store rfl rfl rfl rfl sz29 rfl hm 0 rfl rfl fun w hm => ?_
  refine rw_done ?_
  refine gn_sq ?_
  refine HW_ret rfl ?_
  refine gr_sq ?_
  refine toR (fin0 hret rfl (.cell rfl (run_loadVar_s sc46 (hm.get (k := 1) rfl) rfl) (.cell rfl (run_loadVar_s sc29 (hm.get (k := 0) rfl) rfl) .nil)) .more ?_)
  exact ⟨none, 0, 0, .gap, rfl, .nil _ _ _ _, (hm.gapIn.pick [0] rfl)⟩

theorem f_readA (D : Pl.Dv) (m : Nat) (Z : List (Nat × Blk)) (w0 : World) (hZ : OwnZ w0 Z) (hz : DevZ 87 133 5 D m Z) (a b : Int) (ha : Pl.I64 a) (hb : Pl.I64 b) : C Try.prog 40 [.pointer (some ⟨m, 0, none⟩), .agg ⟨[.int .i64 a, .int .i64 b]⟩] w0 fun v w' => ∃ q c g d, v = .tuple ⟨[.slice q (Pl.rdB D a b).length c, .int .i64 (Pl.rdCode D a b)]⟩ ∧ Acc 5 1 q (Pl.rdB D a b).length c ((Pl.rdB D a b).flatMap encB) g d ∧ Mem w0 w' No [(g, d)] := by
  cases hon : Pl.onD D a b with
  | true =>
    have hv := Pl.onD_iff.1 hon
    obtain ⟨x, rfl⟩ : ∃ x : Nat, a = x := ⟨a.toNat, by omega⟩
    obtain ⟨y, rfl⟩ : ∃ y : Nat, b = y := ⟨b.toNat, by omega⟩
    exact f_read D m Z x y w0 hZ hz hon
  | false =>
    have hc : Pl.rdCode D a b = 2 := by unfold Pl.rdCode; rw [hon]; rfl
    have hB : Pl.rdB D a b = [] := by unfold Pl.rdB; rw [hc]; rfl
    rw [hB, hc]
    exact f_readX D m Z w0 hZ hz a b ha hb hon

theorem rdB_len {D : Pl.Dv} (h : Pl.okDv D) (a b : Int) : (Pl.rdB D a b).length ≤ 1048576 := by
  have h1 := Pl.contents_len h
  have h2 := h.max
  unfold Pl.rdB
  split
  · rw [List.length_take, List.length_drop]; omega
  · exact Nat.zero_le _

set_option maxHeartbeats 1600000 in
theorem j_open1 (D : Pl.Dv) (m : Nat) (Z : List (Nat × Blk)) (w0 : World) (hZ : OwnZ w0 Z) (hz : DevZ 87 133 5 D m Z) (f N : Nat) (b : Int) (hb : Pl.I64 b) (hN : Pl.slot (D.sz : Int) b = (N : Int)) (k : Int) (i : Nat) (hin : f + i * N + N ≤ D.cnt) (hrd : Pl.rdCode D (((f + i * N) * D.sz : Nat) : Int) ((N * D.sz : Nat) : Int) = 0 ∧ (Pl.rexpect ((Pl.rdB D (((f + i * N) * D.sz : Nat) : Int) ((N * D.sz : Nat) : Int)).take 40) ⟨0, 0, 0⟩ [71, 74, 82, 49] 19).2 = false) (q1 q2 q3 j : Nat) (hq1 : w0.heap[q1]? = some (Blk.row 47 [.pointer (some ⟨m, 0, none⟩)]).toObj) (hq2 : w0.heap[q2]? = some (Blk.row 63 [.pointer (some ⟨j, 0, none⟩)]).toObj) (hj : w0.heap[j]? = some (Blk.row 94 [.pointer (some ⟨m, 0, none⟩), .int .i64 (f : Int), .int .i64 b, .int .u64 k, .int .u64 1, .int .u64 0, .int .u64 0, .int .i64 0, .int .i64 0, .slice none 0 0, .bool false]).toObj) : C Try.prog 39 [.int .i64 (i : Int), .pointer (some ⟨q1, 0, none⟩), .pointer (some ⟨q2, 0, none⟩), .pointer (some ⟨q3, 0, none⟩)] w0 fun v w' => v = .int .i64 0 ∧ Ext No w0 w' := by
  have hok := hz.ok
  have o1 := hok.sz
  have o4 := hok.max
  have o3 := hok.cnt
  have o5 : D.cnt ≤ D.cnt * D.sz := Nat.le_mul_of_pos_right _ o1
  have o7 : D.sz ≤ D.cnt * D.sz := Nat.le_mul_of_pos_left _ o3
  have e1 : (f + i * N + N) * D.sz ≤ D.cnt * D.sz := Nat.mul_le_mul_right _ hin
  rw [Nat.add_mul _ N] at e1
  obtain ⟨hrc, hmg⟩ := hrd
  refine C_of Try.func39 rfl rfl rfl fun κ hret hnorm => ?_
  have hm := Mem.start w0
  refine HW_seq rfl ?_
  refine HW_text (.pure 0 .done) (by kernel_rfl) ?_
  refine rw_p rfl rfl (y_assign rfl) ?_
  refine rw_done ?_
  refine gn_sq ?_
  refine HW_seq rfl ?_
  refine HW_draw (.pure 0 (.pure 1 (.pure 2 (.pure 3 (.pure 4 (.pure 5 (.act 6 (.act 7 (.pure 8 (.pure 9 (.pure 10 (.pure 11 (.pure 12 .done))))))))))))) No mix (by kernel_rfl) hm fun w hw hm0 hh => ?_
  have hm := hm0
  refine rw_p rfl rfl (y_load rfl sc47 (fun u hu => ((hm0.to.trans hu).same _ (Array.getElem?_eq_some_iff.1 hq1).1 id).trans hq1) rfl) ?_
  refine rw_p rfl rfl (y_load rfl sc63 (fun u hu => ((hm0.to.trans hu).same _ (Array.getElem?_eq_some_iff.1 hq2).1 id).trans hq2) rfl) ?_
  refine rw_p rfl rfl (y_nil rfl) ?_
  refine rw_p rfl rfl (y_fieldAddr rfl fo94_0) ?_
  refine rw_p rfl rfl (y_loadA (s := 3) (vs := [_, _, _]) rfl ag90 (fun u hu => ((hm0.to.trans hu).same _ (Array.getElem?_eq_some_iff.1 hj).1 id).trans hj) rfl) ?_
  refine rw_p rfl rfl (y_move rfl) ?_
  refine a_call rfl rfl rfl go41 (jr_slot D m Z _ (hZ.ext hm.to) hz f N b hb hN i hin) fun v w hR => ?_
  obtain ⟨rfl, hE⟩ := hR
  refine ⟨hh.ext hE, ?_⟩
  replace hm := hm.ext hE
  replace hh := hh.ext hE
  refine a_call rfl rfl rfl go40 (f_readA D m Z _ (hZ.ext hm.to) hz (((f + i * N) * D.sz : Nat) : Int) ((N * D.sz : Nat) : Int) (by simp only [Pl.I64]; omega) (by simp only [Pl.I64]; omega)) fun v w hR => ?_
  obtain ⟨p_s, cap_s, g_s, b_s, rfl, ha_s, hmc⟩ := hR
  refine ⟨hh.ext hmc.to, ?_⟩
  have hg_s : b_s.real = true → _ := fun hr => (hmc.fresh _ List.mem_cons_self hr).resolve_left id
  replace hh := hh.ext hmc.to
  replace hm := hm.callN hmc
  rw [hrc]
  refine rw_p rfl rfl (y_move rfl) ?_
  refine rw_p rfl rfl (y_extract rfl rfl) ?_
  refine rw_p rfl rfl (y_extract rfl rfl) ?_
  refine rw_p rfl rfl (y_assign rfl) ?_
  refine rw_p rfl rfl (y_assign rfl) ?_
  refine rw_done ?_
  refine gn_sq ?_
  refine HW_seq rfl ?_
  refine HW_seq rfl ?_
  refine HW_text (.pure 0 (.pure 1 .done)) (by kernel_rfl) ?_
  refine rw_p rfl rfl (y_move rfl) ?_
  refine rw_p rfl rfl (y_as (c := false) (y_ne rfl rfl) (by decide)) ?_
  refine rw_done ?_
  refine gn_sq ?_
  refine HW_condF rfl rfl rfl ?_
  refine HW_skip rfl ?_
  refine gn_sq ?_
  refine HW_seq rfl ?_
  refine HW_seq rfl ?_
  refine HW_text (.pure 0 (.act 1 (.pure 2 (.pure 3 (.pure 4 (.act 5 (.act 6 (.pure 7 .done)))))))) (by kernel_rfl) ?_
  refine rw_p rfl rfl (y_move rfl) ?_
  refine a_call rfl rfl rfl go42 (rec_dec0 p_s cap_s (Pl.rdB D (((f + i * N) * D.sz : Nat) : Int) ((N * D.sz : Nat) : Int)) _ (ha_s.rd hm 0 rfl) ha_s.le ha_s.spot (Nat.le_trans (rdB_len hok _ _) (by decide)) hmg) fun v w hR => ?_
  obtain ⟨rfl, hE⟩ := hR
  refine ⟨trivial, ?_⟩
  replace hm := hm.ext hE
  refine rw_p rfl rfl (y_move rfl) ?_
  refine rw_p rfl rfl (y_extract rfl rfl) ?_
  refine rw_p rfl rfl (y_extract rfl rfl) ?_
  refine a_alloc rfl rfl z92 hm trivial fun m1 w hg_m1 hm hh => ?_
  refine a_store rfl rfl rfl rfl sz92 rfl hm 0 rfl rfl fun w hm => ?_
  refine rw_p rfl rfl (y_assign rfl) ?_
  refine rw_done ?_
  refine gn_sq ?_
  refine HW_seq rfl ?_
  refine HW_text (.pure 0 (.pure 1 .done)) (by kernel_rfl) ?_
  refine rw_p rfl rfl (y_move rfl) ?_
  refine rw_p rfl rfl (y_as (c := false) (y_eq rfl rfl) (by decide)) ?_
  refine rw_done ?_
  refine gn_sq ?_
  refine HW_condF rfl rfl rfl ?_
  refine HW_skip rfl ?_
  refine gn_sq ?_
  refine HW_seq rfl ?_
  refine HW_text (.pure 0 .done) (by kernel_rfl) ?_
  refine rw_p rfl rfl (y_assign rfl) ?_
  refine rw_done ?_
  refine gn_sq ?_
  refine HW_ret rfl ?_
  refine toR (fin hret rfl (.tmp rfl .nil) .one ?_)
  exact ⟨rfl, hm.to⟩

set_option maxHeartbeats 1600000 in
theorem j_open (D : Pl.Dv) (m : Nat) (Z : List (Nat × Blk)) (w0 : World) (hZ : OwnZ w0 Z) (hz : DevZ 87 133 5 D m Z) (f N : Nat) (b : Int) (hb : Pl.I64 b) (hN : Pl.slot (D.sz : Int) b = (N : Int)) (k : Int) (h0 : N ≠ 0) (h2 : f + 2 * N ≤ D.cnt) (hrd : ∀ i, i < 2 → Pl.rdCode D (((f + i * N) * D.sz : Nat) : Int) ((N * D.sz : Nat) : Int) = 0 ∧ (Pl.rexpect ((Pl.rdB D (((f + i * N) * D.sz : Nat) : Int) ((N * D.sz : Nat) : Int)).take 40) ⟨0, 0, 0⟩ [71, 74, 82, 49] 19).2 = false) : C Try.prog 20 [.pointer (some ⟨m, 0, none⟩), .int .i64 (f : Int), .int .i64 b, .int .u64 k] w0 fun v w' => ∃ j q c, v = .tuple ⟨[.pointer (some ⟨j, 0, none⟩), .int .i64 0]⟩ ∧ Mem w0 w' No [(j, .row 94 [.pointer (some ⟨m, 0, none⟩), .int .i64 (f : Int), .int .i64 b, .int .u64 k, .int .u64 1, .int .u64 0, .int .u64 0, .int .i64 0, .int .i64 0, .slice q 0 c, .bool false])] := by
  refine C_of Try.func20 rfl rfl rfl fun κ hret hnorm => ?_
  have hm := Mem.start w0
  refine HW_seq rfl ?_
  refine HW_text (.act 0 (.pure 1 (.pure 2 .done))) (by kernel_rfl) ?_
  refine a_box rfl rfl rfl rfl hm trivial fun m1 w hg_m1 hm hh => ?_
  refine rw_p rfl rfl (y_assign rfl) ?_
  refine rw_p rfl rfl (y_assign rfl) ?_
  refine rw_done ?_
  refine gn_sq ?_
  refine HW_seq rfl ?_
  refine HW_text (.pure 0 (.pure 1 (.pure 2 (.pure 3 (.pure 4 (.pure 5 (.act 6 (.act 7 (.act 8 .done))))))))) (by kernel_rfl) ?_
  refine rw_p rfl rfl (y_load rfl sc47 (hm.nt 0 rfl) rfl) ?_
  refine rw_p rfl rfl (y_move rfl) ?_
  refine rw_p rfl rfl (y_move rfl) ?_
  refine rw_p rfl rfl (y_build (cs := [_, _, _]) z90 ft90 rfl rfl rfl rfl rfl) ?_
  refine rw_p rfl rfl (y_move rfl) ?_
  refine rw_p rfl rfl (y_build (cs := [_, _, _, _, _, _, _, _, _, _, _]) z94 ft94 rfl rfl rfl rfl rfl) ?_
  refine a_box rfl rfl rfl rfl hm trivial fun m2 w hg_m2 hm hh => ?_
  refine a_alloc rfl rfl z63 hm trivial fun m3 w hg_m3 hm hh => ?_
  refine a_store rfl rfl rfl rfl sz63 rfl hm 0 rfl rfl fun w hm => ?_
  refine rw_done ?_
  refine gn_sq ?_
  refine HW_seq rfl ?_
  refine HW_seq rfl ?_
  refine HW_text (.pure 0 (.pure 1 (.pure 2 (.pure 3 (.act 4 (.pure 5 .done)))))) (by kernel_rfl) ?_
  refine rw_p rfl rfl (y_load rfl sc63 (hm.nt 0 rfl) rfl) ?_
  refine rw_p rfl rfl (y_nil rfl) ?_
  refine rw_p rfl rfl (y_fieldAddr rfl fo94_0) ?_
  refine rw_p rfl rfl (y_loadA (s := 3) (vs := [_, _, _]) rfl ag90 (hm.nt 1 rfl) rfl) ?_
  refine a_call rfl rfl rfl go38 (jr_check D m Z _ (hZ.ext hm.to) hz f N b hb hN h0 h2) fun v w hR => ?_
  obtain ⟨rfl, hE⟩ := hR
  refine ⟨trivial, ?_⟩
  replace hm := hm.ext hE
  refine rw_p rfl rfl (y_assign rfl) ?_
  refine rw_done ?_
  refine gn_sq ?_
  refine HW_seq rfl ?_
  refine HW_text (.pure 0 (.pure 1 .done)) (by kernel_rfl) ?_
  refine rw_p rfl rfl (y_move rfl) ?_
  refine rw_p rfl rfl (y_as (c := false) (y_ne rfl rfl) (by decide)) ?_
  refine rw_done ?_
  refine gn_sq ?_
  refine HW_condF rfl rfl rfl ?_
  refine HW_skip rfl ?_
  refine gn_sq ?_
  refine HW_seq rfl ?_
  refine HW_text (.act 0 .done) (by kernel_rfl) ?_
  refine a_alloc rfl rfl z96 hm trivial fun m4 w hg_m4 hm hh => ?_
  refine rw_done ?_
  refine gn_sq ?_
  refine HW_seq rfl ?_
  refine HW_text (.pure 0 (.pure 1 .done)) (by kernel_rfl) ?_
  refine rw_p rfl rfl (y_func rfl rfl) ?_
  refine rw_p rfl rfl (y_assign rfl) ?_
  refine rw_done ?_
  refine gn_sq ?_
  refine HW_seq rfl ?_
  refine HW_seq rfl ?_
  refine HW_text (.pure 0 .done) (by kernel_rfl) ?_
  refine rw_p rfl rfl (y_move rfl) ?_
  refine rw_done ?_
  refine gn_sq ?_
  refine HW_block rfl ?_
  refine HW_loopK (ι := Nat) rfl (ks := [3, 10, 12, 13]) (.cons rfl (.cons rfl (.cons rfl (.cons rfl .nil)))) (fun i => [(34, .int .i64 i)]) (fun i w => Mem w0 w No [(m4, .row 96 [.slice none 0 0]), (m3, .row 63 [.pointer (some ⟨m2, 0, none⟩)]), (m2, .row 94 [.pointer (some ⟨m, 0, none⟩), .int .i64 (f : Int), .int .i64 b, .int .u64 k, .int .u64 1, .int .u64 0, .int .u64 0, .int .i64 0, .int .i64 0, .slice none 0 0, .bool false]), (m1, .row 47 [.pointer (some ⟨m, 0, none⟩)])] ∧ i ≤ 2) (fun i => 2 - i) 0 (⟨(hm.pick [0, 1, 2, 3] rfl), by omega⟩) ⟨rfl, trivial⟩ (fun i w hM => ?_)
  obtain ⟨hm, hk⟩ := hM
  refine HW_seq rfl ?_
  refine HW_text (.pure 0 .done) (by kernel_rfl) ?_
  refine rw_p rfl rfl (y_lt rfl rfl) ?_
  refine rw_done ?_
  refine gn_sq ?_
  refine HW_seq rfl ?_
  refine HW_cond rfl rfl (fun hc1 => ?_) (fun hc1 => ?_)
  ·
    simp only [decide_eq_true_eq] at hc1
    have hin9 : f + i * N + N ≤ D.cnt := by rcases (show i = 0 ∨ i = 1 by omega) with h9 | h9 <;> rw [h9] <;> omega
    refine HW_skip rfl ?_
    refine gn_sq ?_
    refine HW_seq rfl ?_
    refine HW_block rfl ?_
    refine HW_seq rfl ?_
    refine HW_text (.pure 0 (.pure 1 .done)) (by kernel_rfl) ?_
    refine rw_p rfl rfl (y_move rfl) ?_
    refine rw_p rfl rfl (y_assign rfl) ?_
    refine rw_done ?_
    refine gn_sq ?_
    refine HW_seq rfl ?_
    refine HW_text (.pure 0 (.pure 1 (.act 2 (.pure 3 .done)))) (by kernel_rfl) ?_
    refine rw_p rfl rfl (y_move rfl) ?_
    refine rw_p rfl rfl (y_move rfl) ?_
    refine a_callV rfl rfl rfl rfl go39 (j_open1 D m Z _ (hZ.ext hm.to) hz f N b hb hN k i hin9 (hrd i (by omega)) m1 m3 m4 m2 (hm.get (k := 3) rfl) (hm.get (k := 1) rfl) (hm.get (k := 2) rfl)) fun v w hR => ?_
    obtain ⟨rfl, hE⟩ := hR
    refine ⟨trivial, ?_⟩
    replace hm := hm.ext hE
    refine rw_p rfl rfl (y_assign rfl) ?_
    refine rw_done ?_
    refine gn_sq ?_
    refine HW_seq rfl ?_
    refine HW_text (.pure 0 (.pure 1 .done)) (by kernel_rfl) ?_
    refine rw_p rfl rfl (y_move rfl) ?_
    refine rw_p rfl rfl (y_as (c := false) (y_ne rfl rfl) (by decide)) ?_
    refine rw_done ?_
    refine gn_sq ?_
    refine HW_condF rfl rfl rfl ?_
    refine HW_skip rfl ?_
    refine gn_bl ?_
    refine gn_sq ?_
    refine HW_text (.pure 0 (.pure 1 .done)) (by kernel_rfl) ?_
    refine rw_p rfl rfl (y_add rfl rfl (i64w (by omega) (by omega))) ?_
    refine rw_p rfl rfl (y_move rfl) ?_
    refine rw_done ?_
    refine next (i + 1) (by omega) ⟨(hm.pick [0, 1, 2, 3] rfl), by omega⟩ ⟨nx i, rfl, rfl, rfl, rfl, trivial⟩
  ·
    refine HW_exit rfl ?_
    refine gx_sq (gx_lp ?_)
    refine gx_here ?_
    refine gn_sq ?_
    refine HW_seq rfl ?_
    refine HW_seq rfl ?_
    refine HW_text (.pure 0 (.pure 1 (.pure 2 .done))) (by kernel_rfl) ?_
    refine rw_p rfl rfl (y_load rfl sc96 (hm.nt 0 rfl) rfl) ?_
    refine rw_p rfl rfl (y_len rfl rfl sl96) ?_
    refine rw_p rfl rfl (y_move rfl) ?_
    refine rw_done ?_
    refine gn_sq ?_
    refine HW_block rfl ?_
    refine HW_loopK (ι := Unit) rfl (ks := [3, 10, 12, 44, 45]) (.cons rfl (.cons rfl (.cons rfl (.cons rfl (.cons rfl .nil))))) (fun u => [(46, .int .i64 0)]) (fun u w => Mem w0 w No [(m4, .row 96 [.slice none 0 0]), (m3, .row 63 [.pointer (some ⟨m2, 0, none⟩)]), (m2, .row 94 [.pointer (some ⟨m, 0, none⟩), .int .i64 (f : Int), .int .i64 b, .int .u64 k, .int .u64 1, .int .u64 0, .int .u64 0, .int .i64 0, .int .i64 0, .slice none 0 0, .bool false]), (m1, .row 47 [.pointer (some ⟨m, 0, none⟩)])] ∧ True) (fun u => 0) () (⟨(hm.pick [0, 1, 2, 3] rfl), trivial⟩) ⟨rfl, trivial⟩ (fun u w hM => ?_)
    obtain ⟨hm, -⟩ := hM
    refine HW_seq rfl ?_
    refine HW_text (.pure 0 .done) (by kernel_rfl) ?_
    refine rw_p rfl rfl (y_as (c := false) (y_lt rfl rfl) (by decide)) ?_
    refine rw_done ?_
    refine gn_sq ?_
    refine HW_seq rfl ?_
    refine HW_condF rfl rfl rfl ?_
    refine HW_exit rfl ?_
    refine gx_sq (gx_lp ?_)
    refine gx_here ?_
    refine gn_sq ?_
    refine HW_seq rfl ?_
    refine HW_seq rfl ?_
    refine HW_text (.pure 0 (.pure 1 (.pure 2 .done))) (by kernel_rfl) ?_
    refine rw_p rfl rfl (y_load rfl sc96 (hm.nt 0 rfl) rfl) ?_
    refine rw_p rfl rfl (y_len rfl rfl sl96) ?_
    refine rw_p rfl rfl (y_as (c := false) (y_eq rfl rfl) (by decide)) ?_
    refine rw_done ?_
    refine gn_sq ?_
    refine HW_condF rfl rfl rfl ?_
    refine HW_skip rfl ?_
    refine gn_sq ?_
    refine HW_seq rfl ?_
    refine HW_draw (.pure 0 (.pure 1 (.pure 2 (.pure 3 (.act 4 (.pure 5 (.pure 6 (.pure 7 (.pure 8 (.pure 9 (.act 10 (.pure 11 (.pure 12 (.act 13 .done)))))))))))))) (fun j => j = m2) mix (by kernel_rfl) hm fun w hw hm0 hh => ?_
    have hm := hm0
    refine rw_p rfl rfl (y_load rfl sc63 (hm0.nd 1 rfl (hm0.ne 1 2 rfl rfl rfl)) rfl) ?_
    refine rw_p rfl rfl (y_load rfl sc63 (hm0.nd 1 rfl (hm0.ne 1 2 rfl rfl rfl)) rfl) ?_
    refine rw_p rfl rfl (y_move rfl) ?_
    refine rw_p rfl rfl (y_load rfl sc96 (hm0.nd 0 rfl (hm0.ne 0 2 rfl rfl rfl)) rfl) ?_
    refine a_call rfl rfl rfl go43 (rec_new0 k _) fun v w hR => ?_
    obtain ⟨⟨q_, c_, rfl⟩, hE⟩ := hR
    refine ⟨hh.ext hE, ?_⟩
    replace hm := hm.ext hE
    replace hh := hh.ext hE
    refine rw_p rfl rfl (y_move rfl) ?_
    refine rw_p rfl rfl (y_extract rfl rfl) ?_
    refine rw_p rfl rfl (y_extract rfl rfl) ?_
    refine rw_p rfl rfl (y_nil rfl) ?_
    refine rw_p rfl rfl (y_fieldAddr rfl fo94_3) ?_
    refine a_storeN rfl rfl rfl rfl sz92 rfl hm 2 rfl rfl hh (.inr rfl) fun w hm hh => ?_
    refine rw_p rfl rfl (y_nil rfl) ?_
    refine rw_p rfl rfl (y_fieldAddr rfl fo94_4) ?_
    refine a_storeN rfl rfl rfl rfl sz4 rfl hm 2 rfl rfl hh (.inr rfl) fun w hm hh => ?_
    refine rw_done ?_
    refine gn_sq ?_
    refine HW_seq rfl ?_
    refine HW_text (.pure 0 (.pure 1 (.pure 2 .done))) (by kernel_rfl) ?_
    refine rw_p rfl rfl (y_load rfl sc63 (hm.nt 1 rfl) rfl) ?_
    refine rw_p rfl rfl (y_assign rfl) ?_
    refine rw_p rfl rfl (y_assign rfl) ?_
    refine rw_done ?_
    refine gn_sq ?_
    refine HW_ret rfl ?_
    refine toR (fin hret rfl (.tmp rfl (.tmp rfl .nil)) .more ?_)
    exact ⟨m2, q_, c_, rfl, (hm.pick [2] rfl)⟩

end Go.Proofs.Ytibdmklcdllklaa
