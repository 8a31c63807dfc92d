/- Contracts of functions of the program: what each returns. Conditions: the hypotheses of each theorem. -/
import Derived.Test.YthailbggeafckaaGreatChecked
import Derived.Test.YthailbggeafckaaGreatBs2
set_option linter.unusedVariables false
set_option linter.unusedSimpArgs false
namespace Go.Proofs.YthailbggeafckaaGreat
open Go Go.Cx

theorem fo63_0 : fldO Tryz.prog 63 0 = some 0 := by kernel_rfl
theorem fo63_1 : fldO Tryz.prog 63 1 = some 1 := by kernel_rfl
theorem sc3 : scal Tryz.prog 3 = true := by kernel_rfl
theorem go79 : isGo Tryz.prog 79 = true := by kernel_rfl
theorem mix : Tryz.prog.follows .mixedOrders = true := by kernel_rfl
theorem ag63 : aggS Tryz.prog 63 = some 2 := by kernel_rfl
theorem ft63 : fldT Tryz.prog 63 = some [(0, 1), (1, 1)] := by kernel_rfl
theorem sz63 : szO Tryz.prog 63 = some 2 := by kernel_rfl
theorem z63 : zer Tryz.prog 63 = some [.int .i64 0, .int .i64 0] := by kernel_rfl
theorem go86 : isGo Tryz.prog 86 = true := by kernel_rfl
theorem go87 : isGo Tryz.prog 87 = true := by kernel_rfl

theorem ext_valid (a b : Int) (w0 : World) (ha : Pl.I64 a) (hb : Pl.I64 b) : C Tryz.prog 72 [.agg #[.int .i64 a, .int .i64 b]] w0 fun v w' => v = .bool (Pl.valid a b) ∧ Ext No w0 w' := by
  refine C_of Tryz.func72 rfl rfl rfl fun κ hret hnorm => ?_
  have hm := Mem.start w0
  refine HW_seq rfl ?_
  refine HW_text (.act 0 (.pure 1 .done)) (by kernel_rfl) ?_
  refine a_box rfl rfl rfl rfl hm trivial fun m1 w hg_m1 hm hh => ?_
  refine rw_p rfl rfl (y_assign rfl) ?_
  refine rw_done ?_
  refine gn_sq ?_
  refine HW_seq rfl ?_
  refine HW_text (.pure 0 (.pure 1 (.pure 2 (.pure 3 (.pure 4 (.pure 5 (.pure 6 (.pure 7 (.pure 8 (.pure 9 (.pure 10 (.pure 11 (.pure 12 (.pure 13 (.pure 14 (.pure 15 (.pure 16 (.pure 17 (.pure 18 (.pure 19 .done)))))))))))))))))))) (by kernel_rfl) ?_
  refine rw_p rfl rfl (y_fieldAddr rfl fo63_0) ?_
  refine rw_p rfl rfl (y_load rfl sc3 (hm.nt 0 rfl) rfl) ?_
  refine rw_p rfl rfl (y_fieldAddr rfl fo63_1) ?_
  refine rw_p rfl rfl (y_load rfl sc3 (hm.nt 0 rfl) rfl) ?_
  refine rw_p rfl rfl (y_min rfl rfl) ?_
  refine rw_p rfl rfl (y_ge rfl rfl) ?_
  refine rw_p rfl rfl (y_move rfl) ?_
  refine rw_g rfl rfl rfl (fun hc => (y_fieldAddr rfl fo63_0)) ?_
  refine rw_g rfl rfl rfl (fun hc => (y_load (gx hc rfl) sc3 (hm.nt 0 rfl) rfl)) ?_
  refine rw_g rfl rfl rfl (fun hc => (y_le (gx hc rfl) rfl)) ?_
  refine rw_p rfl rfl (y_and rfl rfl rfl) ?_
  refine rw_p rfl rfl (y_move rfl) ?_
  refine rw_g rfl rfl rfl (fun hc => (y_fieldAddr rfl fo63_1)) ?_
  refine rw_g rfl rfl rfl (fun hc => (y_load (gx hc rfl) sc3 (hm.nt 0 rfl) rfl)) ?_
  refine rw_g rfl rfl rfl (fun hc => (y_fieldAddr rfl fo63_0)) ?_
  refine rw_g rfl rfl rfl (fun hc => (y_load (gx hc rfl) sc3 (hm.nt 0 rfl) rfl)) ?_
  refine rw_g rfl rfl rfl (fun hc => (y_sub rfl (gx hc rfl) (i64w (by simp at hc; omega) (by simp at hc; omega)))) ?_
  refine rw_g rfl rfl rfl (fun hc => (y_le (gx hc rfl) (gx hc rfl))) ?_
  refine rw_p rfl rfl (y_and rfl rfl rfl) ?_
  refine rw_p rfl rfl (y_assign rfl) ?_
  refine rw_done ?_
  refine gn_sq ?_
  refine HW_ret rfl ?_
  refine toR (fin hret rfl (.tmp rfl .nil) .one ?_)
  exact ⟨congrArg Value.bool (by rw [Bool.eq_iff_iff]; simp [Pl.valid]; omega), hm.to⟩

theorem ext_end (a b : Int) (w0 : World) (h : Pl.I64 (a + b)) : C Tryz.prog 87 [.agg #[.int .i64 a, .int .i64 b]] w0 fun v w' => v = .int .i64 (a + b) ∧ Ext No w0 w' := by
  refine C_of Tryz.func87 rfl rfl rfl fun κ hret hnorm => ?_
  have hm := Mem.start w0
  refine HW_seq rfl ?_
  refine HW_text (.act 0 (.pure 1 .done)) (by kernel_rfl) ?_
  refine a_box rfl rfl rfl rfl hm trivial fun m1 w hg_m1 hm hh => ?_
  refine rw_p rfl rfl (y_assign rfl) ?_
  refine rw_done ?_
  refine gn_sq ?_
  refine HW_seq rfl ?_
  refine HW_text (.pure 0 (.pure 1 (.pure 2 (.pure 3 (.pure 4 (.pure 5 .done)))))) (by kernel_rfl) ?_
  refine rw_p rfl rfl (y_fieldAddr rfl fo63_0) ?_
  refine rw_p rfl rfl (y_load rfl sc3 (hm.nt 0 rfl) rfl) ?_
  refine rw_p rfl rfl (y_fieldAddr rfl fo63_1) ?_
  refine rw_p rfl rfl (y_load rfl sc3 (hm.nt 0 rfl) rfl) ?_
  refine rw_p rfl rfl (y_add rfl rfl (i64w (by omega) (by omega))) ?_
  refine rw_p rfl rfl (y_assign rfl) ?_
  refine rw_done ?_
  refine gn_sq ?_
  refine HW_ret rfl ?_
  refine toR (fin hret rfl (.tmp rfl .nil) .one ?_)
  exact ⟨rfl, hm.to⟩

theorem r1_max (w0 : World) : C Tryz.prog 79 [] w0 fun v w' => v = .int .i64 4611686018427387903 ∧ Ext No w0 w' := by
  refine C_of Tryz.func79 rfl rfl rfl fun κ hret hnorm => ?_
  have hm := Mem.start w0
  refine HW_seq rfl ?_
  refine HW_text (.pure 0 .done) (by kernel_rfl) ?_
  refine rw_p rfl rfl (y_assign rfl) ?_
  refine rw_done ?_
  refine gn_sq ?_
  refine HW_seq rfl ?_
  refine HW_text (.pure 0 .done) (by kernel_rfl) ?_
  refine rw_p rfl rfl (y_assign rfl) ?_
  refine rw_done ?_
  refine gn_sq ?_
  refine HW_ret rfl ?_
  refine toR (fin hret rfl (.tmp rfl .nil) .one ?_)
  exact ⟨rfl, hm.to⟩

theorem r1_valid (a b : Int) (w0 : World) (ha : Pl.I64 a) (hb : Pl.I64 b) : C Tryz.prog 98 [.agg #[.int .i64 a, .int .i64 b]] w0 fun v w' => v = .bool (Pl.valid a b) ∧ Ext No w0 w' := by
  refine C_of Tryz.func98 rfl rfl rfl fun κ hret hnorm => ?_
  have hm := Mem.start w0
  refine HW_seq rfl ?_
  refine HW_text (.act 0 (.pure 1 .done)) (by kernel_rfl) ?_
  refine a_box rfl rfl rfl rfl hm trivial fun m1 w hg_m1 hm hh => ?_
  refine rw_p rfl rfl (y_assign rfl) ?_
  refine rw_done ?_
  refine gn_sq ?_
  refine HW_seq rfl ?_
  refine HW_draw (.pure 0 (.pure 1 (.pure 2 (.pure 3 (.pure 4 (.pure 5 (.pure 6 (.pure 7 (.pure 8 (.pure 9 (.pure 10 (.act 11 (.pure 12 (.pure 13 (.pure 14 (.pure 15 (.pure 16 (.pure 18 (.pure 19 (.act 17 (.pure 20 (.pure 21 (.pure 22 (.pure 23 .done)))))))))))))))))))))))) No mix (by kernel_rfl) hm fun w hw hm0 hh => ?_
  have hm := hm0
  refine rw_p rfl rfl (y_fieldAddr rfl fo63_0) ?_
  refine rw_p rfl rfl (y_load rfl sc3 (hm0.nd 0 rfl id) rfl) ?_
  refine rw_p rfl rfl (y_ge rfl rfl) ?_
  refine rw_p rfl rfl (y_move rfl) ?_
  refine rw_g rfl rfl rfl (fun hc => (y_fieldAddr rfl fo63_1)) ?_
  refine rw_g rfl rfl rfl (fun hc => (y_load (gx hc rfl) sc3 (hm0.nd 0 rfl id) rfl)) ?_
  refine rw_g rfl rfl rfl (fun hc => (y_ge (gx hc rfl) rfl)) ?_
  refine rw_p rfl rfl (y_and rfl rfl rfl) ?_
  refine rw_p rfl rfl (y_move rfl) ?_
  refine rw_g rfl rfl rfl (fun hc => (y_fieldAddr rfl fo63_0)) ?_
  refine rw_g rfl rfl rfl (fun hc => (y_load (gx hc rfl) sc3 (hm0.nd 0 rfl id) rfl)) ?_
  refine a_callG rfl rfl rfl (fun hc => rfl) go79 (fun hc => (r1_max _)) hh fun w hE hh => ?_
  replace hm := hm.ext hE
  refine rw_g rfl rfl rfl (fun hc => (y_le (gx hc rfl) (gx hc rfl))) ?_
  refine rw_p rfl rfl (y_and rfl rfl rfl) ?_
  refine rw_p rfl rfl (y_move rfl) ?_
  refine rw_g rfl rfl rfl (fun hc => (y_fieldAddr rfl fo63_1)) ?_
  refine rw_g rfl rfl rfl (fun hc => (y_load (gx hc rfl) sc3 (hm0.nd 0 rfl id) rfl)) ?_
  refine rw_g rfl rfl rfl (fun hc => (y_fieldAddr rfl fo63_0)) ?_
  refine rw_g rfl rfl rfl (fun hc => (y_load (gx hc rfl) sc3 (hm0.nd 0 rfl id) rfl)) ?_
  refine a_callG rfl rfl rfl (fun hc => rfl) go79 (fun hc => (r1_max _)) hh fun w hE hh => ?_
  replace hm := hm.ext hE
  refine rw_g rfl rfl rfl (fun hc => (y_sub (gx hc rfl) (gx hc rfl) (i64w (by simp at hc; omega) (by simp at hc; omega)))) ?_
  refine rw_g rfl rfl rfl (fun hc => (y_le (gx hc rfl) (gx hc rfl))) ?_
  refine rw_p rfl rfl (y_and rfl rfl rfl) ?_
  refine rw_p rfl rfl (y_assign rfl) ?_
  refine rw_done ?_
  refine gn_sq ?_
  refine HW_ret rfl ?_
  refine toR (fin hret rfl (.tmp rfl .nil) .one ?_)
  exact ⟨congrArg Value.bool (by rw [Bool.eq_iff_iff]; simp [Pl.valid]; omega), hm.to⟩

theorem ext_between (a b c : Int) (w0 : World) (h : Pl.I64 (b - a)) : C Tryz.prog 86 [.int .i64 a, .int .i64 b, .int .i64 c] w0 fun v w' => v = .tuple ⟨[.agg ⟨exV (Pl.btw a b c)⟩, .bool (Pl.btw a b c).isSome]⟩ ∧ Ext No w0 w' := by
  refine C_of Tryz.func86 rfl rfl rfl fun κ hret hnorm => ?_
  have hm := Mem.start w0
  refine HW_seq rfl ?_
  refine HW_text (.act 0 (.pure 1 .done)) (by kernel_rfl) ?_
  refine a_alloc rfl rfl z63 hm trivial fun m1 w hg_m1 hm hh => ?_
  refine rw_p rfl rfl (y_assign rfl) ?_
  refine rw_done ?_
  refine gn_sq ?_
  refine HW_seq rfl ?_
  refine HW_seq rfl ?_
  refine HW_text (.pure 0 (.pure 1 (.pure 2 (.pure 3 (.pure 4 .done))))) (by kernel_rfl) ?_
  refine rw_p rfl rfl (y_move rfl) ?_
  refine rw_p rfl rfl (y_move rfl) ?_
  refine rw_p rfl rfl (y_sub rfl rfl (i64w (by omega) (by omega))) ?_
  refine rw_p rfl rfl (y_move rfl) ?_
  refine rw_p rfl rfl (y_lt rfl rfl) ?_
  refine rw_done ?_
  refine gn_sq ?_
  refine HW_cond rfl rfl (fun hc0 => ?_) (fun hc0 => ?_)
  ·
    simp only [Bool.and_eq_true, Bool.or_eq_true, Bool.and_eq_false_iff, Bool.or_eq_false_iff, Bool.not_eq_true', Bool.not_eq_false', decide_eq_true_eq, decide_eq_false_iff_not] at hc0
    refine HW_seq rfl ?_
    refine HW_text (.pure 0 (.act 1 (.pure 2 .done))) (by kernel_rfl) ?_
    refine rw_p rfl rfl (y_build (cs := [_, _]) z63 ft63 rfl rfl rfl rfl rfl) ?_
    refine a_store rfl rfl rfl rfl sz63 rfl hm 0 rfl rfl fun w hm => ?_
    refine rw_p rfl rfl (y_assign rfl) ?_
    refine rw_done ?_
    refine gn_sq ?_
    refine HW_ret rfl ?_
    refine gr_sq ?_
    refine toR (fin hret rfl (.cell rfl (run_loadVar_a (vs := [_, _]) ag63 (hm.get (k := 0) rfl) rfl) (.tmp rfl .nil)) .more ?_)
    exact ⟨by simp [tup, Pl.btw, hc0, exV], hm.to⟩
  ·
    simp only [Bool.and_eq_true, Bool.or_eq_true, Bool.and_eq_false_iff, Bool.or_eq_false_iff, Bool.not_eq_true', Bool.not_eq_false', decide_eq_true_eq, decide_eq_false_iff_not] at hc0
    refine HW_skip rfl ?_
    refine gn_sq ?_
    refine HW_seq rfl ?_
    refine HW_text (.pure 0 (.pure 1 (.pure 2 (.pure 3 (.pure 4 (.act 5 (.pure 6 .done))))))) (by kernel_rfl) ?_
    refine rw_p rfl rfl (y_move rfl) ?_
    refine rw_p rfl rfl (y_move rfl) ?_
    refine rw_p rfl rfl (y_move rfl) ?_
    refine rw_p rfl rfl (y_sub rfl rfl (i64w (by omega) (by omega))) ?_
    refine rw_p rfl rfl (y_build (cs := [_, _]) z63 ft63 rfl rfl rfl rfl rfl) ?_
    refine a_store rfl rfl rfl rfl sz63 rfl hm 0 rfl rfl fun w hm => ?_
    refine rw_p rfl rfl (y_assign rfl) ?_
    refine rw_done ?_
    refine gn_sq ?_
    refine HW_ret rfl ?_
    refine toR (fin hret rfl (.cell rfl (run_loadVar_a (vs := [_, _]) ag63 (hm.get (k := 0) rfl) rfl) (.tmp rfl .nil)) .more ?_)
    exact ⟨by simp [tup, Pl.btw, exV, hc0], hm.to⟩

theorem ext_overlap (a b c e : Int) (w0 : World) (h1 : 0 ≤ a ∧ 0 ≤ b ∧ a + b ≤ 9223372036854775807) (h2 : 0 ≤ c ∧ 0 ≤ e ∧ c + e ≤ 9223372036854775807) : C Tryz.prog 90 [.agg #[.int .i64 a, .int .i64 b], .agg #[.int .i64 c, .int .i64 e]] w0 fun v w' => v = .tuple ⟨[.agg ⟨exV (Pl.overlap a b c e)⟩, .bool (Pl.overlap a b c e).isSome]⟩ ∧ Ext No w0 w' := by
  refine C_of Tryz.func90 rfl rfl rfl fun κ hret hnorm => ?_
  have hm := Mem.start w0
  refine HW_seq rfl ?_
  refine HW_text (.act 0 (.act 1 (.act 2 (.pure 3 .done)))) (by kernel_rfl) ?_
  refine a_box rfl rfl rfl rfl hm trivial fun m1 w hg_m1 hm hh => ?_
  refine a_box rfl rfl rfl rfl hm trivial fun m2 w hg_m2 hm hh => ?_
  refine a_alloc rfl rfl z63 hm trivial fun m3 w hg_m3 hm hh => ?_
  refine rw_p rfl rfl (y_assign rfl) ?_
  refine rw_done ?_
  refine gn_sq ?_
  refine HW_seq rfl ?_
  refine HW_draw (.pure 0 (.pure 1 (.pure 2 (.pure 3 (.pure 4 (.pure 5 (.pure 7 (.act 6 (.act 8 (.pure 9 (.act 10 (.pure 11 (.pure 12 (.cut (.act 13 (.pure 14 .done)))))))))))))))) No mix (by kernel_rfl) hm fun w hw hm0 hh => ?_
  have hm := hm0
  refine rw_p rfl rfl (y_fieldAddr rfl fo63_0) ?_
  refine rw_p rfl rfl (y_load rfl sc3 (hm0.nd 2 rfl id) rfl) ?_
  refine rw_p rfl rfl (y_fieldAddr rfl fo63_0) ?_
  refine rw_p rfl rfl (y_load rfl sc3 (hm0.nd 1 rfl id) rfl) ?_
  refine rw_p rfl rfl (y_max rfl rfl) ?_
  refine rw_p rfl rfl (y_loadA (s := 2) (vs := [_, _]) rfl ag63 (hm0.nd 2 rfl id) rfl) ?_
  refine rw_p rfl rfl (y_loadA (s := 2) (vs := [_, _]) rfl ag63 (hm0.nd 1 rfl id) rfl) ?_
  refine a_call rfl rfl rfl go87 (ext_end _ _ _ (by omega)) fun v w hR => ?_
  obtain ⟨rfl, hE⟩ := hR
  refine ⟨hh.ext hE, ?_⟩
  replace hm := hm.ext hE
  replace hh := hh.ext hE
  refine a_call rfl rfl rfl go87 (ext_end _ _ _ (by omega)) fun v w hR => ?_
  obtain ⟨rfl, hE⟩ := hR
  refine ⟨hh.ext hE, ?_⟩
  replace hm := hm.ext hE
  replace hh := hh.ext hE
  refine rw_p rfl rfl (y_min rfl rfl) ?_
  refine a_call rfl rfl rfl go86 (ext_between _ _ _ _ (by omega)) fun v w hR => ?_
  obtain ⟨rfl, hE⟩ := hR
  refine ⟨hh.ext hE, ?_⟩
  replace hm := hm.ext hE
  replace hh := hh.ext hE
  refine rw_p rfl rfl (y_extract rfl rfl) ?_
  refine rw_p rfl rfl (y_extract rfl rfl) ?_
  refine a_cut ?_
  refine a_store rfl rfl rfl rfl sz63 rfl hm 0 rfl rfl fun w hm => ?_
  refine rw_p rfl rfl (y_assign rfl) ?_
  refine rw_done ?_
  refine gn_sq ?_
  refine HW_ret rfl ?_
  refine toR (fin hret rfl (.cell rfl (run_loadVar_a (vs := [_, _]) ag63 (hm.get (k := 0) rfl) rfl) (.tmp rfl .nil)) .more ?_)
  exact ⟨rfl, hm.to⟩

theorem ext_join (a b c e : Int) (w0 : World) (h1 : 0 ≤ a ∧ 0 ≤ b ∧ a + b ≤ 9223372036854775807) (h2 : 0 ≤ c ∧ 0 ≤ e ∧ c + e ≤ 9223372036854775807) : C Tryz.prog 46 [.agg #[.int .i64 a, .int .i64 b], .agg #[.int .i64 c, .int .i64 e]] w0 fun v w' => v = .tuple ⟨[.agg ⟨exV (Pl.joined a b c e)⟩, .bool (Pl.joined a b c e).isSome]⟩ ∧ Ext No w0 w' := by
  refine C_of Tryz.func46 rfl rfl rfl fun κ hret hnorm => ?_
  have hm := Mem.start w0
  refine HW_seq rfl ?_
  refine HW_text (.act 0 (.act 1 (.act 2 (.pure 3 .done)))) (by kernel_rfl) ?_
  refine a_box rfl rfl rfl rfl hm trivial fun m1 w hg_m1 hm hh => ?_
  refine a_box rfl rfl rfl rfl hm trivial fun m2 w hg_m2 hm hh => ?_
  refine a_alloc rfl rfl z63 hm trivial fun m3 w hg_m3 hm hh => ?_
  refine rw_p rfl rfl (y_assign rfl) ?_
  refine rw_done ?_
  refine gn_sq ?_
  refine HW_seq rfl ?_
  refine HW_seq rfl ?_
  refine HW_draw (.pure 0 (.pure 1 (.pure 2 (.pure 3 (.pure 4 (.pure 5 (.pure 7 (.act2 6 (.act2 8 (.pure 9 (.act2 10 (.pure 11 (.pure 12 (.pure 13 (.act 14 (.act 15 (.pure 16 .done)))))) 14 (.act 10 (.pure 11 (.pure 12 (.pure 13 (.act 15 (.pure 16 .done)))))))) 14 (.act 8 (.pure 9 (.act 10 (.pure 11 (.pure 12 (.pure 13 (.act 15 (.pure 16 .done))))))))) 14 (.act 6 (.act 8 (.pure 9 (.act 10 (.pure 11 (.pure 12 (.pure 13 (.act 15 (.pure 16 .done))))))))))))))))) No mix (by kernel_rfl) hm fun w hw hm0 hh => ?_
  have hm := hm0
  refine rw_p rfl rfl (y_fieldAddr rfl fo63_0) ?_
  refine rw_p rfl rfl (y_load rfl sc3 (hm0.nd 2 rfl id) rfl) ?_
  refine rw_p rfl rfl (y_fieldAddr rfl fo63_0) ?_
  refine rw_p rfl rfl (y_load rfl sc3 (hm0.nd 1 rfl id) rfl) ?_
  refine rw_p rfl rfl (y_max rfl rfl) ?_
  refine rw_p rfl rfl (y_loadA (s := 2) (vs := [_, _]) rfl ag63 (hm0.nd 2 rfl id) rfl) ?_
  refine rw_p rfl rfl (y_loadA (s := 2) (vs := [_, _]) rfl ag63 (hm0.nd 1 rfl id) rfl) ?_
  refine a_two ?_ ?_
  ·
    refine a_call rfl rfl rfl go87 (ext_end _ _ _ (by omega)) fun v w hR => ?_
    obtain ⟨rfl, hE⟩ := hR
    refine ⟨hh.ext hE, ?_⟩
    replace hm := hm.ext hE
    replace hh := hh.ext hE
    refine a_two ?_ ?_
    ·
      refine a_call rfl rfl rfl go87 (ext_end _ _ _ (by omega)) fun v w hR => ?_
      obtain ⟨rfl, hE⟩ := hR
      refine ⟨hh.ext hE, ?_⟩
      replace hm := hm.ext hE
      replace hh := hh.ext hE
      refine rw_p rfl rfl (y_min rfl rfl) ?_
      refine a_two ?_ ?_
      ·
        refine a_call rfl rfl rfl go86 (ext_between _ _ _ _ (by omega)) fun v w hR => ?_
        obtain ⟨rfl, hE⟩ := hR
        refine ⟨hh.ext hE, ?_⟩
        replace hm := hm.ext hE
        replace hh := hh.ext hE
        refine rw_p rfl rfl (y_move rfl) ?_
        refine rw_p rfl rfl (y_extract rfl rfl) ?_
        refine rw_p rfl rfl (y_extract rfl rfl) ?_
        refine a_alloc rfl rfl z63 hm hh fun m4 w hg_m4 hm hh => ?_
        refine a_storeN rfl rfl rfl rfl sz63 rfl hm 0 rfl rfl hh (.inl hg_m4) fun w hm hh => ?_
        refine rw_p rfl rfl (y_assign rfl) ?_
        refine rw_done ?_
        refine gn_sq ?_
        refine HW_seq rfl ?_
        refine HW_text (.pure 0 (.pure 1 .done)) (by kernel_rfl) ?_
        refine rw_p rfl rfl (y_move rfl) ?_
        refine rw_p rfl rfl (y_not rfl) ?_
        refine rw_done ?_
        refine gn_sq ?_
        refine HW_cond rfl rfl (fun hc0 => ?_) (fun hc0 => ?_)
        ·
          simp only [Bool.not_eq_true'] at hc0
          refine HW_seq rfl ?_
          refine HW_text (.pure 0 (.act 1 (.pure 2 .done))) (by kernel_rfl) ?_
          refine rw_p rfl rfl (y_build (cs := [_, _]) z63 ft63 rfl rfl rfl rfl rfl) ?_
          refine a_store rfl rfl rfl rfl sz63 rfl hm 1 rfl rfl fun w hm => ?_
          refine rw_p rfl rfl (y_assign rfl) ?_
          refine rw_done ?_
          refine gn_sq ?_
          refine HW_ret rfl ?_
          refine gr_sq ?_
          refine toR (fin hret rfl (.cell rfl (run_loadVar_a (vs := [_, _]) ag63 (hm.get (k := 1) rfl) rfl) (.tmp rfl .nil)) .more ?_)
          exact ⟨by simp [tup, Pl.joined, hc0, exV], hm.to⟩
        ·
          simp only [Bool.not_eq_false'] at hc0
          refine HW_skip rfl ?_
          refine gn_sq ?_
          refine HW_seq rfl ?_
          refine HW_draw (.pure 0 (.pure 1 (.pure 2 (.pure 3 (.pure 4 (.pure 5 (.pure 7 (.act 6 (.act 8 (.pure 9 (.act 10 (.pure 11 (.pure 12 (.cut (.act 13 (.pure 14 .done)))))))))))))))) No mix (by kernel_rfl) hm fun w hw hm0 hh => ?_
          have hm := hm0
          refine rw_p rfl rfl (y_fieldAddr rfl fo63_0) ?_
          refine rw_p rfl rfl (y_load rfl sc3 (hm0.nd 3 rfl id) rfl) ?_
          refine rw_p rfl rfl (y_fieldAddr rfl fo63_0) ?_
          refine rw_p rfl rfl (y_load rfl sc3 (hm0.nd 2 rfl id) rfl) ?_
          refine rw_p rfl rfl (y_min rfl rfl) ?_
          refine rw_p rfl rfl (y_loadA (s := 2) (vs := [_, _]) rfl ag63 (hm0.nd 3 rfl id) rfl) ?_
          refine rw_p rfl rfl (y_loadA (s := 2) (vs := [_, _]) rfl ag63 (hm0.nd 2 rfl id) rfl) ?_
          refine a_call rfl rfl rfl go87 (ext_end _ _ _ (by omega)) fun v w hR => ?_
          obtain ⟨rfl, hE⟩ := hR
          refine ⟨hh.ext hE, ?_⟩
          replace hm := hm.ext hE
          replace hh := hh.ext hE
          refine a_call rfl rfl rfl go87 (ext_end _ _ _ (by omega)) fun v w hR => ?_
          obtain ⟨rfl, hE⟩ := hR
          refine ⟨hh.ext hE, ?_⟩
          replace hm := hm.ext hE
          replace hh := hh.ext hE
          refine rw_p rfl rfl (y_max rfl rfl) ?_
          refine a_call rfl rfl rfl go86 (ext_between _ _ _ _ (by omega)) fun v w hR => ?_
          obtain ⟨rfl, hE⟩ := hR
          refine ⟨hh.ext hE, ?_⟩
          replace hm := hm.ext hE
          replace hh := hh.ext hE
          refine rw_p rfl rfl (y_extract rfl rfl) ?_
          refine rw_p rfl rfl (y_extract rfl rfl) ?_
          refine a_cut ?_
          refine a_store rfl rfl rfl rfl sz63 rfl hm 1 rfl rfl fun w hm => ?_
          refine rw_p rfl rfl (y_assign rfl) ?_
          refine rw_done ?_
          refine gn_sq ?_
          refine HW_ret rfl ?_
          refine toR (fin hret rfl (.cell rfl (run_loadVar_a (vs := [_, _]) ag63 (hm.get (k := 1) rfl) rfl) (.tmp rfl .nil)) .more ?_)
          exact ⟨by simp [tup, Pl.joined, hc0, exV], hm.to⟩
      ·
        refine a_alloc rfl rfl z63 hm hh fun m4 w hg_m4 hm hh => ?_
        refine a_call rfl rfl rfl go86 (ext_between _ _ _ _ (by omega)) fun v w hR => ?_
        obtain ⟨rfl, hE⟩ := hR
        refine ⟨hh.ext hE, ?_⟩
        replace hm := hm.ext hE
        replace hh := hh.ext hE
        refine rw_p rfl rfl (y_move rfl) ?_
        refine rw_p rfl rfl (y_extract rfl rfl) ?_
        refine rw_p rfl rfl (y_extract rfl rfl) ?_
        refine a_storeN rfl rfl rfl rfl sz63 rfl hm 0 rfl rfl hh (.inl hg_m4) fun w hm hh => ?_
        refine rw_p rfl rfl (y_assign rfl) ?_
        refine rw_done ?_
        refine gn_sq ?_
        refine HW_seq rfl ?_
        refine HW_text (.pure 0 (.pure 1 .done)) (by kernel_rfl) ?_
        refine rw_p rfl rfl (y_move rfl) ?_
        refine rw_p rfl rfl (y_not rfl) ?_
        refine rw_done ?_
        refine gn_sq ?_
        refine HW_cond rfl rfl (fun hc0 => ?_) (fun hc0 => ?_)
        ·
          simp only [Bool.not_eq_true'] at hc0
          refine HW_seq rfl ?_
          refine HW_text (.pure 0 (.act 1 (.pure 2 .done))) (by kernel_rfl) ?_
          refine rw_p rfl rfl (y_build (cs := [_, _]) z63 ft63 rfl rfl rfl rfl rfl) ?_
          refine a_store rfl rfl rfl rfl sz63 rfl hm 1 rfl rfl fun w hm => ?_
          refine rw_p rfl rfl (y_assign rfl) ?_
          refine rw_done ?_
          refine gn_sq ?_
          refine HW_ret rfl ?_
          refine gr_sq ?_
          refine toR (fin hret rfl (.cell rfl (run_loadVar_a (vs := [_, _]) ag63 (hm.get (k := 1) rfl) rfl) (.tmp rfl .nil)) .more ?_)
          exact ⟨by simp [tup, Pl.joined, hc0, exV], hm.to⟩
        ·
          simp only [Bool.not_eq_false'] at hc0
          refine HW_skip rfl ?_
          refine gn_sq ?_
          refine HW_seq rfl ?_
          refine HW_draw (.pure 0 (.pure 1 (.pure 2 (.pure 3 (.pure 4 (.pure 5 (.pure 7 (.act 6 (.act 8 (.pure 9 (.act 10 (.pure 11 (.pure 12 (.cut (.act 13 (.pure 14 .done)))))))))))))))) No mix (by kernel_rfl) hm fun w hw hm0 hh => ?_
          have hm := hm0
          refine rw_p rfl rfl (y_fieldAddr rfl fo63_0) ?_
          refine rw_p rfl rfl (y_load rfl sc3 (hm0.nd 3 rfl id) rfl) ?_
          refine rw_p rfl rfl (y_fieldAddr rfl fo63_0) ?_
          refine rw_p rfl rfl (y_load rfl sc3 (hm0.nd 2 rfl id) rfl) ?_
          refine rw_p rfl rfl (y_min rfl rfl) ?_
          refine rw_p rfl rfl (y_loadA (s := 2) (vs := [_, _]) rfl ag63 (hm0.nd 3 rfl id) rfl) ?_
          refine rw_p rfl rfl (y_loadA (s := 2) (vs := [_, _]) rfl ag63 (hm0.nd 2 rfl id) rfl) ?_
          refine a_call rfl rfl rfl go87 (ext_end _ _ _ (by omega)) fun v w hR => ?_
          obtain ⟨rfl, hE⟩ := hR
          refine ⟨hh.ext hE, ?_⟩
          replace hm := hm.ext hE
          replace hh := hh.ext hE
          refine a_call rfl rfl rfl go87 (ext_end _ _ _ (by omega)) fun v w hR => ?_
          obtain ⟨rfl, hE⟩ := hR
          refine ⟨hh.ext hE, ?_⟩
          replace hm := hm.ext hE
          replace hh := hh.ext hE
          refine rw_p rfl rfl (y_max rfl rfl) ?_
          refine a_call rfl rfl rfl go86 (ext_between _ _ _ _ (by omega)) fun v w hR => ?_
          obtain ⟨rfl, hE⟩ := hR
          refine ⟨hh.ext hE, ?_⟩
          replace hm := hm.ext hE
          replace hh := hh.ext hE
          refine rw_p rfl rfl (y_extract rfl rfl) ?_
          refine rw_p rfl rfl (y_extract rfl rfl) ?_
          refine a_cut ?_
          refine a_store rfl rfl rfl rfl sz63 rfl hm 1 rfl rfl fun w hm => ?_
          refine rw_p rfl rfl (y_assign rfl) ?_
          refine rw_done ?_
          refine gn_sq ?_
          refine HW_ret rfl ?_
          refine toR (fin hret rfl (.cell rfl (run_loadVar_a (vs := [_, _]) ag63 (hm.get (k := 1) rfl) rfl) (.tmp rfl .nil)) .more ?_)
          exact ⟨by simp [tup, Pl.joined, hc0, exV], hm.to⟩
    ·
      refine a_alloc rfl rfl z63 hm hh fun m4 w hg_m4 hm hh => ?_
      refine a_call rfl rfl rfl go87 (ext_end _ _ _ (by omega)) fun v w hR => ?_
      obtain ⟨rfl, hE⟩ := hR
      refine ⟨hh.ext hE, ?_⟩
      replace hm := hm.ext hE
      replace hh := hh.ext hE
      refine rw_p rfl rfl (y_min rfl rfl) ?_
      refine a_call rfl rfl rfl go86 (ext_between _ _ _ _ (by omega)) fun v w hR => ?_
      obtain ⟨rfl, hE⟩ := hR
      refine ⟨hh.ext hE, ?_⟩
      replace hm := hm.ext hE
      replace hh := hh.ext hE
      refine rw_p rfl rfl (y_move rfl) ?_
      refine rw_p rfl rfl (y_extract rfl rfl) ?_
      refine rw_p rfl rfl (y_extract rfl rfl) ?_
      refine a_storeN rfl rfl rfl rfl sz63 rfl hm 0 rfl rfl hh (.inl hg_m4) fun w hm hh => ?_
      refine rw_p rfl rfl (y_assign rfl) ?_
      refine rw_done ?_
      refine gn_sq ?_
      refine HW_seq rfl ?_
      refine HW_text (.pure 0 (.pure 1 .done)) (by kernel_rfl) ?_
      refine rw_p rfl rfl (y_move rfl) ?_
      refine rw_p rfl rfl (y_not rfl) ?_
      refine rw_done ?_
      refine gn_sq ?_
      refine HW_cond rfl rfl (fun hc0 => ?_) (fun hc0 => ?_)
      ·
        simp only [Bool.not_eq_true'] at hc0
        refine HW_seq rfl ?_
        refine HW_text (.pure 0 (.act 1 (.pure 2 .done))) (by kernel_rfl) ?_
        refine rw_p rfl rfl (y_build (cs := [_, _]) z63 ft63 rfl rfl rfl rfl rfl) ?_
        refine a_store rfl rfl rfl rfl sz63 rfl hm 1 rfl rfl fun w hm => ?_
        refine rw_p rfl rfl (y_assign rfl) ?_
        refine rw_done ?_
        refine gn_sq ?_
        refine HW_ret rfl ?_
        refine gr_sq ?_
        refine toR (fin hret rfl (.cell rfl (run_loadVar_a (vs := [_, _]) ag63 (hm.get (k := 1) rfl) rfl) (.tmp rfl .nil)) .more ?_)
        exact ⟨by simp [tup, Pl.joined, hc0, exV], hm.to⟩
      ·
        simp only [Bool.not_eq_false'] at hc0
        refine HW_skip rfl ?_
        refine gn_sq ?_
        refine HW_seq rfl ?_
        refine HW_draw (.pure 0 (.pure 1 (.pure 2 (.pure 3 (.pure 4 (.pure 5 (.pure 7 (.act 6 (.act 8 (.pure 9 (.act 10 (.pure 11 (.pure 12 (.cut (.act 13 (.pure 14 .done)))))))))))))))) No mix (by kernel_rfl) hm fun w hw hm0 hh => ?_
        have hm := hm0
        refine rw_p rfl rfl (y_fieldAddr rfl fo63_0) ?_
        refine rw_p rfl rfl (y_load rfl sc3 (hm0.nd 3 rfl id) rfl) ?_
        refine rw_p rfl rfl (y_fieldAddr rfl fo63_0) ?_
        refine rw_p rfl rfl (y_load rfl sc3 (hm0.nd 2 rfl id) rfl) ?_
        refine rw_p rfl rfl (y_min rfl rfl) ?_
        refine rw_p rfl rfl (y_loadA (s := 2) (vs := [_, _]) rfl ag63 (hm0.nd 3 rfl id) rfl) ?_
        refine rw_p rfl rfl (y_loadA (s := 2) (vs := [_, _]) rfl ag63 (hm0.nd 2 rfl id) rfl) ?_
        refine a_call rfl rfl rfl go87 (ext_end _ _ _ (by omega)) fun v w hR => ?_
        obtain ⟨rfl, hE⟩ := hR
        refine ⟨hh.ext hE, ?_⟩
        replace hm := hm.ext hE
        replace hh := hh.ext hE
        refine a_call rfl rfl rfl go87 (ext_end _ _ _ (by omega)) fun v w hR => ?_
        obtain ⟨rfl, hE⟩ := hR
        refine ⟨hh.ext hE, ?_⟩
        replace hm := hm.ext hE
        replace hh := hh.ext hE
        refine rw_p rfl rfl (y_max rfl rfl) ?_
        refine a_call rfl rfl rfl go86 (ext_between _ _ _ _ (by omega)) fun v w hR => ?_
        obtain ⟨rfl, hE⟩ := hR
        refine ⟨hh.ext hE, ?_⟩
        replace hm := hm.ext hE
        replace hh := hh.ext hE
        refine rw_p rfl rfl (y_extract rfl rfl) ?_
        refine rw_p rfl rfl (y_extract rfl rfl) ?_
        refine a_cut ?_
        refine a_store rfl rfl rfl rfl sz63 rfl hm 1 rfl rfl fun w hm => ?_
        refine rw_p rfl rfl (y_assign rfl) ?_
        refine rw_done ?_
        refine gn_sq ?_
        refine HW_ret rfl ?_
        refine toR (fin hret rfl (.cell rfl (run_loadVar_a (vs := [_, _]) ag63 (hm.get (k := 1) rfl) rfl) (.tmp rfl .nil)) .more ?_)
        exact ⟨by simp [tup, Pl.joined, hc0, exV], hm.to⟩
  ·
    refine a_alloc rfl rfl z63 hm hh fun m4 w hg_m4 hm hh => ?_
    refine a_call rfl rfl rfl go87 (ext_end _ _ _ (by omega)) fun v w hR => ?_
    obtain ⟨rfl, hE⟩ := hR
    refine ⟨hh.ext hE, ?_⟩
    replace hm := hm.ext hE
    replace hh := hh.ext hE
    refine a_call rfl rfl rfl go87 (ext_end _ _ _ (by omega)) fun v w hR => ?_
    obtain ⟨rfl, hE⟩ := hR
    refine ⟨hh.ext hE, ?_⟩
    replace hm := hm.ext hE
    replace hh := hh.ext hE
    refine rw_p rfl rfl (y_min rfl rfl) ?_
    refine a_call rfl rfl rfl go86 (ext_between _ _ _ _ (by omega)) fun v w hR => ?_
    obtain ⟨rfl, hE⟩ := hR
    refine ⟨hh.ext hE, ?_⟩
    replace hm := hm.ext hE
    replace hh := hh.ext hE
    refine rw_p rfl rfl (y_move rfl) ?_
    refine rw_p rfl rfl (y_extract rfl rfl) ?_
    refine rw_p rfl rfl (y_extract rfl rfl) ?_
    refine a_storeN rfl rfl rfl rfl sz63 rfl hm 0 rfl rfl hh (.inl hg_m4) fun w hm hh => ?_
    refine rw_p rfl rfl (y_assign rfl) ?_
    refine rw_done ?_
    refine gn_sq ?_
    refine HW_seq rfl ?_
    refine HW_text (.pure 0 (.pure 1 .done)) (by kernel_rfl) ?_
    refine rw_p rfl rfl (y_move rfl) ?_
    refine rw_p rfl rfl (y_not rfl) ?_
    refine rw_done ?_
    refine gn_sq ?_
    refine HW_cond rfl rfl (fun hc0 => ?_) (fun hc0 => ?_)
    ·
      simp only [Bool.not_eq_true'] at hc0
      refine HW_seq rfl ?_
      refine HW_text (.pure 0 (.act 1 (.pure 2 .done))) (by kernel_rfl) ?_
      refine rw_p rfl rfl (y_build (cs := [_, _]) z63 ft63 rfl rfl rfl rfl rfl) ?_
      refine a_store rfl rfl rfl rfl sz63 rfl hm 1 rfl rfl fun w hm => ?_
      refine rw_p rfl rfl (y_assign rfl) ?_
      refine rw_done ?_
      refine gn_sq ?_
      refine HW_ret rfl ?_
      refine gr_sq ?_
      refine toR (fin hret rfl (.cell rfl (run_loadVar_a (vs := [_, _]) ag63 (hm.get (k := 1) rfl) rfl) (.tmp rfl .nil)) .more ?_)
      exact ⟨by simp [tup, Pl.joined, hc0, exV], hm.to⟩
    ·
      simp only [Bool.not_eq_false'] at hc0
      refine HW_skip rfl ?_
      refine gn_sq ?_
      refine HW_seq rfl ?_
      refine HW_draw (.pure 0 (.pure 1 (.pure 2 (.pure 3 (.pure 4 (.pure 5 (.pure 7 (.act 6 (.act 8 (.pure 9 (.act 10 (.pure 11 (.pure 12 (.cut (.act 13 (.pure 14 .done)))))))))))))))) No mix (by kernel_rfl) hm fun w hw hm0 hh => ?_
      have hm := hm0
      refine rw_p rfl rfl (y_fieldAddr rfl fo63_0) ?_
      refine rw_p rfl rfl (y_load rfl sc3 (hm0.nd 3 rfl id) rfl) ?_
      refine rw_p rfl rfl (y_fieldAddr rfl fo63_0) ?_
      refine rw_p rfl rfl (y_load rfl sc3 (hm0.nd 2 rfl id) rfl) ?_
      refine rw_p rfl rfl (y_min rfl rfl) ?_
      refine rw_p rfl rfl (y_loadA (s := 2) (vs := [_, _]) rfl ag63 (hm0.nd 3 rfl id) rfl) ?_
      refine rw_p rfl rfl (y_loadA (s := 2) (vs := [_, _]) rfl ag63 (hm0.nd 2 rfl id) rfl) ?_
      refine a_call rfl rfl rfl go87 (ext_end _ _ _ (by omega)) fun v w hR => ?_
      obtain ⟨rfl, hE⟩ := hR
      refine ⟨hh.ext hE, ?_⟩
      replace hm := hm.ext hE
      replace hh := hh.ext hE
      refine a_call rfl rfl rfl go87 (ext_end _ _ _ (by omega)) fun v w hR => ?_
      obtain ⟨rfl, hE⟩ := hR
      refine ⟨hh.ext hE, ?_⟩
      replace hm := hm.ext hE
      replace hh := hh.ext hE
      refine rw_p rfl rfl (y_max rfl rfl) ?_
      refine a_call rfl rfl rfl go86 (ext_between _ _ _ _ (by omega)) fun v w hR => ?_
      obtain ⟨rfl, hE⟩ := hR
      refine ⟨hh.ext hE, ?_⟩
      replace hm := hm.ext hE
      replace hh := hh.ext hE
      refine rw_p rfl rfl (y_extract rfl rfl) ?_
      refine rw_p rfl rfl (y_extract rfl rfl) ?_
      refine a_cut ?_
      refine a_store rfl rfl rfl rfl sz63 rfl hm 1 rfl rfl fun w hm => ?_
      refine rw_p rfl rfl (y_assign rfl) ?_
      refine rw_done ?_
      refine gn_sq ?_
      refine HW_ret rfl ?_
      refine toR (fin hret rfl (.cell rfl (run_loadVar_a (vs := [_, _]) ag63 (hm.get (k := 1) rfl) rfl) (.tmp rfl .nil)) .more ?_)
      exact ⟨by simp [tup, Pl.joined, hc0, exV], hm.to⟩

end Go.Proofs.YthailbggeafckaaGreat
