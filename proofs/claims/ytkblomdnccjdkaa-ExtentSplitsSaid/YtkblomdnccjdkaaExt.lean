/- Contracts of functions of the program: what each returns. Conditions: the hypotheses of each theorem. -/
import Derived.Test.YtkblomdnccjdkaaChecked
import Derived.Test.YtkblomdnccjdkaaEnA
set_option linter.unusedVariables false
set_option linter.unusedSimpArgs false
namespace Go.Proofs.Ytkblomdnccjdkaa
open Go Go.Cx

theorem fo23_0 : fldO Try.prog 23 0 = some 0 := by kernel_rfl
theorem fo23_1 : fldO Try.prog 23 1 = some 1 := by kernel_rfl
theorem sc3 : scal Try.prog 3 = true := by kernel_rfl
theorem go14 : isGo Try.prog 14 = true := by kernel_rfl
theorem mix : Try.prog.follows .mixedOrders = true := by kernel_rfl
theorem ag23 : aggS Try.prog 23 = some 2 := by kernel_rfl
theorem ft23 : fldT Try.prog 23 = some [(0, 1), (1, 1)] := by kernel_rfl
theorem sz23 : szO Try.prog 23 = some 2 := by kernel_rfl
theorem z23 : zer Try.prog 23 = some [.int .i64 0, .int .i64 0] := by kernel_rfl
theorem go12 : isGo Try.prog 12 = true := by kernel_rfl
theorem go26 : isGo Try.prog 26 = true := by kernel_rfl
theorem go11 : isGo Try.prog 11 = true := by kernel_rfl
theorem sz3 : szO Try.prog 3 = some 1 := by kernel_rfl
theorem sl35 : slcO Try.prog 35 = some (23, 2, 16) := by kernel_rfl
theorem go30 : isGo Try.prog 30 = true := by kernel_rfl
theorem go27 : isGo Try.prog 27 = true := by kernel_rfl
theorem go28 : isGo Try.prog 28 = true := by kernel_rfl
theorem go9 : isGo Try.prog 9 = true := by kernel_rfl
theorem iii23 : int2 Try.prog 23 = true := by kernel_rfl
theorem go29 : isGo Try.prog 29 = true := by kernel_rfl
theorem go31 : isGo Try.prog 31 = true := by kernel_rfl
theorem sc35 : scal Try.prog 35 = true := by kernel_rfl
theorem sz35 : szO Try.prog 35 = some 1 := by kernel_rfl
theorem z35 : zer Try.prog 35 = some [.slice none 0 0] := by kernel_rfl

theorem ext_valid (a b : Int) (w0 : World) (ha : Pl.I64 a) (hb : Pl.I64 b) : C Try.prog 11 [.agg #[.int .i64 a, .int .i64 b]] w0 fun v w' => v = .bool (Pl.valid a b) ∧ Ext No w0 w' := by
  refine C_of Try.func11 rfl rfl rfl fun k hret hnorm => ?_
  have hm := Mem.start w0
  refine HW_seq rfl ?_
  refine HW_text (.act 0 (.pure 1 .done)) (by kernel_rfl) ?_
  refine a_box rfl rfl rfl rfl hm trivial fun m1 w hg_m1 hm hh => ?_
  refine rw_p rfl rfl (y_assign rfl) ?_
  refine rw_done ?_
  refine gn_sq ?_
  refine HW_seq rfl ?_
  refine HW_text (.pure 0 (.pure 1 (.pure 2 (.pure 3 (.pure 4 (.pure 5 (.pure 6 (.pure 7 (.pure 8 (.pure 9 (.pure 10 (.pure 11 (.pure 12 (.pure 13 (.pure 14 (.pure 15 (.pure 16 (.pure 17 (.pure 18 (.pure 19 .done)))))))))))))))))))) (by kernel_rfl) ?_
  refine rw_p rfl rfl (y_fieldAddr rfl fo23_0) ?_
  refine rw_p rfl rfl (y_load rfl sc3 (hm.nt 0 rfl) rfl) ?_
  refine rw_p rfl rfl (y_fieldAddr rfl fo23_1) ?_
  refine rw_p rfl rfl (y_load rfl sc3 (hm.nt 0 rfl) rfl) ?_
  refine rw_p rfl rfl (y_min rfl rfl) ?_
  refine rw_p rfl rfl (y_ge rfl rfl) ?_
  refine rw_p rfl rfl (y_move rfl) ?_
  refine rw_g rfl rfl rfl (fun hc => (y_fieldAddr rfl fo23_0)) ?_
  refine rw_g rfl rfl rfl (fun hc => (y_load (gx hc rfl) sc3 (hm.nt 0 rfl) rfl)) ?_
  refine rw_g rfl rfl rfl (fun hc => (y_le (gx hc rfl) rfl)) ?_
  refine rw_p rfl rfl (y_and rfl rfl rfl) ?_
  refine rw_p rfl rfl (y_move rfl) ?_
  refine rw_g rfl rfl rfl (fun hc => (y_fieldAddr rfl fo23_1)) ?_
  refine rw_g rfl rfl rfl (fun hc => (y_load (gx hc rfl) sc3 (hm.nt 0 rfl) rfl)) ?_
  refine rw_g rfl rfl rfl (fun hc => (y_fieldAddr rfl fo23_0)) ?_
  refine rw_g rfl rfl rfl (fun hc => (y_load (gx hc rfl) sc3 (hm.nt 0 rfl) rfl)) ?_
  refine rw_g rfl rfl rfl (fun hc => (y_sub rfl (gx hc rfl) (i64w (by simp at hc; omega) (by simp at hc; omega)))) ?_
  refine rw_g rfl rfl rfl (fun hc => (y_le (gx hc rfl) (gx hc rfl))) ?_
  refine rw_p rfl rfl (y_and rfl rfl rfl) ?_
  refine rw_p rfl rfl (y_assign rfl) ?_
  refine rw_done ?_
  refine gn_sq ?_
  refine HW_ret rfl ?_
  refine toR (fin hret rfl (.tmp rfl .nil) .one ?_)
  exact ⟨congrArg Value.bool (by rw [Bool.eq_iff_iff]; simp [Pl.valid]; omega), hm.to⟩

theorem ext_end (a b : Int) (w0 : World) (h : Pl.I64 (a + b)) : C Try.prog 12 [.agg #[.int .i64 a, .int .i64 b]] w0 fun v w' => v = .int .i64 (a + b) ∧ Ext No w0 w' := by
  refine C_of Try.func12 rfl rfl rfl fun k hret hnorm => ?_
  have hm := Mem.start w0
  refine HW_seq rfl ?_
  refine HW_text (.act 0 (.pure 1 .done)) (by kernel_rfl) ?_
  refine a_box rfl rfl rfl rfl hm trivial fun m1 w hg_m1 hm hh => ?_
  refine rw_p rfl rfl (y_assign rfl) ?_
  refine rw_done ?_
  refine gn_sq ?_
  refine HW_seq rfl ?_
  refine HW_text (.pure 0 (.pure 1 (.pure 2 (.pure 3 (.pure 4 (.pure 5 .done)))))) (by kernel_rfl) ?_
  refine rw_p rfl rfl (y_fieldAddr rfl fo23_0) ?_
  refine rw_p rfl rfl (y_load rfl sc3 (hm.nt 0 rfl) rfl) ?_
  refine rw_p rfl rfl (y_fieldAddr rfl fo23_1) ?_
  refine rw_p rfl rfl (y_load rfl sc3 (hm.nt 0 rfl) rfl) ?_
  refine rw_p rfl rfl (y_add rfl rfl (i64w (by omega) (by omega))) ?_
  refine rw_p rfl rfl (y_assign rfl) ?_
  refine rw_done ?_
  refine gn_sq ?_
  refine HW_ret rfl ?_
  refine toR (fin hret rfl (.tmp rfl .nil) .one ?_)
  exact ⟨rfl, hm.to⟩

theorem r1_max (w0 : World) : C Try.prog 14 [] w0 fun v w' => v = .int .i64 4611686018427387903 ∧ Ext No w0 w' := by
  refine C_of Try.func14 rfl rfl rfl fun k hret hnorm => ?_
  have hm := Mem.start w0
  refine HW_seq rfl ?_
  refine HW_text (.pure 0 .done) (by kernel_rfl) ?_
  refine rw_p rfl rfl (y_assign rfl) ?_
  refine rw_done ?_
  refine gn_sq ?_
  refine HW_seq rfl ?_
  refine HW_text (.pure 0 .done) (by kernel_rfl) ?_
  refine rw_p rfl rfl (y_assign rfl) ?_
  refine rw_done ?_
  refine gn_sq ?_
  refine HW_ret rfl ?_
  refine toR (fin hret rfl (.tmp rfl .nil) .one ?_)
  exact ⟨rfl, hm.to⟩

theorem r1_valid (a b : Int) (w0 : World) (ha : Pl.I64 a) (hb : Pl.I64 b) : C Try.prog 9 [.agg #[.int .i64 a, .int .i64 b]] w0 fun v w' => v = .bool (Pl.valid a b) ∧ Ext No w0 w' := by
  refine C_of Try.func9 rfl rfl rfl fun k hret hnorm => ?_
  have hm := Mem.start w0
  refine HW_seq rfl ?_
  refine HW_text (.act 0 (.pure 1 .done)) (by kernel_rfl) ?_
  refine a_box rfl rfl rfl rfl hm trivial fun m1 w hg_m1 hm hh => ?_
  refine rw_p rfl rfl (y_assign rfl) ?_
  refine rw_done ?_
  refine gn_sq ?_
  refine HW_seq rfl ?_
  refine HW_draw (.pure 0 (.pure 1 (.pure 2 (.pure 3 (.pure 4 (.pure 5 (.pure 6 (.pure 7 (.pure 8 (.pure 9 (.pure 10 (.act 11 (.pure 12 (.pure 13 (.pure 14 (.pure 15 (.pure 16 (.pure 18 (.pure 19 (.act 17 (.pure 20 (.pure 21 (.pure 22 (.pure 23 .done)))))))))))))))))))))))) No mix (by kernel_rfl) hm fun w hw hm0 hh => ?_
  have hm := hm0
  refine rw_p rfl rfl (y_fieldAddr rfl fo23_0) ?_
  refine rw_p rfl rfl (y_load rfl sc3 (hm0.nd 0 rfl id) rfl) ?_
  refine rw_p rfl rfl (y_ge rfl rfl) ?_
  refine rw_p rfl rfl (y_move rfl) ?_
  refine rw_g rfl rfl rfl (fun hc => (y_fieldAddr rfl fo23_1)) ?_
  refine rw_g rfl rfl rfl (fun hc => (y_load (gx hc rfl) sc3 (hm0.nd 0 rfl id) rfl)) ?_
  refine rw_g rfl rfl rfl (fun hc => (y_ge (gx hc rfl) rfl)) ?_
  refine rw_p rfl rfl (y_and rfl rfl rfl) ?_
  refine rw_p rfl rfl (y_move rfl) ?_
  refine rw_g rfl rfl rfl (fun hc => (y_fieldAddr rfl fo23_0)) ?_
  refine rw_g rfl rfl rfl (fun hc => (y_load (gx hc rfl) sc3 (hm0.nd 0 rfl id) rfl)) ?_
  refine a_callG rfl rfl rfl (fun hc => rfl) go14 (fun hc => (r1_max _)) hh fun w hE hh => ?_
  replace hm := hm.ext hE
  refine rw_g rfl rfl rfl (fun hc => (y_le (gx hc rfl) (gx hc rfl))) ?_
  refine rw_p rfl rfl (y_and rfl rfl rfl) ?_
  refine rw_p rfl rfl (y_move rfl) ?_
  refine rw_g rfl rfl rfl (fun hc => (y_fieldAddr rfl fo23_1)) ?_
  refine rw_g rfl rfl rfl (fun hc => (y_load (gx hc rfl) sc3 (hm0.nd 0 rfl id) rfl)) ?_
  refine rw_g rfl rfl rfl (fun hc => (y_fieldAddr rfl fo23_0)) ?_
  refine rw_g rfl rfl rfl (fun hc => (y_load (gx hc rfl) sc3 (hm0.nd 0 rfl id) rfl)) ?_
  refine a_callG rfl rfl rfl (fun hc => rfl) go14 (fun hc => (r1_max _)) hh fun w hE hh => ?_
  replace hm := hm.ext hE
  refine rw_g rfl rfl rfl (fun hc => (y_sub (gx hc rfl) (gx hc rfl) (i64w (by simp at hc; omega) (by simp at hc; omega)))) ?_
  refine rw_g rfl rfl rfl (fun hc => (y_le (gx hc rfl) (gx hc rfl))) ?_
  refine rw_p rfl rfl (y_and rfl rfl rfl) ?_
  refine rw_p rfl rfl (y_assign rfl) ?_
  refine rw_done ?_
  refine gn_sq ?_
  refine HW_ret rfl ?_
  refine toR (fin hret rfl (.tmp rfl .nil) .one ?_)
  exact ⟨congrArg Value.bool (by rw [Bool.eq_iff_iff]; simp [Pl.valid]; omega), hm.to⟩

theorem ext_between (a b c : Int) (w0 : World) (h : Pl.I64 (b - a)) : C Try.prog 26 [.int .i64 a, .int .i64 b, .int .i64 c] w0 fun v w' => v = .tuple ⟨[.agg ⟨exV (Pl.btw a b c)⟩, .bool (Pl.btw a b c).isSome]⟩ ∧ Ext No w0 w' := by
  refine C_of Try.func26 rfl rfl rfl fun k hret hnorm => ?_
  have hm := Mem.start w0
  refine HW_seq rfl ?_
  refine HW_text (.act 0 (.pure 1 .done)) (by kernel_rfl) ?_
  refine a_alloc rfl rfl z23 hm trivial fun m1 w hg_m1 hm hh => ?_
  refine rw_p rfl rfl (y_assign rfl) ?_
  refine rw_done ?_
  refine gn_sq ?_
  refine HW_seq rfl ?_
  refine HW_seq rfl ?_
  refine HW_text (.pure 0 (.pure 1 (.pure 2 (.pure 3 (.pure 4 .done))))) (by kernel_rfl) ?_
  refine rw_p rfl rfl (y_move rfl) ?_
  refine rw_p rfl rfl (y_move rfl) ?_
  refine rw_p rfl rfl (y_sub rfl rfl (i64w (by omega) (by omega))) ?_
  refine rw_p rfl rfl (y_move rfl) ?_
  refine rw_p rfl rfl (y_lt rfl rfl) ?_
  refine rw_done ?_
  refine gn_sq ?_
  refine HW_cond rfl rfl (fun hc0 => ?_) (fun hc0 => ?_)
  ·
    simp only [Bool.and_eq_true, Bool.or_eq_true, Bool.and_eq_false_iff, Bool.or_eq_false_iff, Bool.not_eq_true', Bool.not_eq_false', decide_eq_true_eq, decide_eq_false_iff_not] at hc0
    refine HW_seq rfl ?_
    refine HW_text (.pure 0 (.act 1 (.pure 2 .done))) (by kernel_rfl) ?_
    refine rw_p rfl rfl (y_build (cs := [_, _]) z23 ft23 rfl rfl rfl rfl rfl) ?_
    refine a_store rfl rfl rfl rfl sz23 rfl hm 0 rfl rfl fun w hm => ?_
    refine rw_p rfl rfl (y_assign rfl) ?_
    refine rw_done ?_
    refine gn_sq ?_
    refine HW_ret rfl ?_
    refine gr_sq ?_
    refine toR (fin hret rfl (.cell rfl (run_loadVar_a (vs := [_, _]) ag23 (hm.get (k := 0) rfl) rfl) (.tmp rfl .nil)) .more ?_)
    exact ⟨by simp [tup, Pl.btw, hc0, exV], hm.to⟩
  ·
    simp only [Bool.and_eq_true, Bool.or_eq_true, Bool.and_eq_false_iff, Bool.or_eq_false_iff, Bool.not_eq_true', Bool.not_eq_false', decide_eq_true_eq, decide_eq_false_iff_not] at hc0
    refine HW_skip rfl ?_
    refine gn_sq ?_
    refine HW_seq rfl ?_
    refine HW_text (.pure 0 (.pure 1 (.pure 2 (.pure 3 (.pure 4 (.act 5 (.pure 6 .done))))))) (by kernel_rfl) ?_
    refine rw_p rfl rfl (y_move rfl) ?_
    refine rw_p rfl rfl (y_move rfl) ?_
    refine rw_p rfl rfl (y_move rfl) ?_
    refine rw_p rfl rfl (y_sub rfl rfl (i64w (by omega) (by omega))) ?_
    refine rw_p rfl rfl (y_build (cs := [_, _]) z23 ft23 rfl rfl rfl rfl rfl) ?_
    refine a_store rfl rfl rfl rfl sz23 rfl hm 0 rfl rfl fun w hm => ?_
    refine rw_p rfl rfl (y_assign rfl) ?_
    refine rw_done ?_
    refine gn_sq ?_
    refine HW_ret rfl ?_
    refine toR (fin hret rfl (.cell rfl (run_loadVar_a (vs := [_, _]) ag23 (hm.get (k := 0) rfl) rfl) (.tmp rfl .nil)) .more ?_)
    exact ⟨by simp [tup, Pl.btw, exV, hc0], hm.to⟩

theorem ext_overlap (a b c e : Int) (w0 : World) (h1 : 0 ≤ a ∧ 0 ≤ b ∧ a + b ≤ 9223372036854775807) (h2 : 0 ≤ c ∧ 0 ≤ e ∧ c + e ≤ 9223372036854775807) : C Try.prog 15 [.agg #[.int .i64 a, .int .i64 b], .agg #[.int .i64 c, .int .i64 e]] w0 fun v w' => v = .tuple ⟨[.agg ⟨exV (Pl.overlap a b c e)⟩, .bool (Pl.overlap a b c e).isSome]⟩ ∧ Ext No w0 w' := by
  refine C_of Try.func15 rfl rfl rfl fun k hret hnorm => ?_
  have hm := Mem.start w0
  refine HW_seq rfl ?_
  refine HW_text (.act 0 (.act 1 (.act 2 (.pure 3 .done)))) (by kernel_rfl) ?_
  refine a_box rfl rfl rfl rfl hm trivial fun m1 w hg_m1 hm hh => ?_
  refine a_box rfl rfl rfl rfl hm trivial fun m2 w hg_m2 hm hh => ?_
  refine a_alloc rfl rfl z23 hm trivial fun m3 w hg_m3 hm hh => ?_
  refine rw_p rfl rfl (y_assign rfl) ?_
  refine rw_done ?_
  refine gn_sq ?_
  refine HW_seq rfl ?_
  refine HW_draw (.pure 0 (.pure 1 (.pure 2 (.pure 3 (.pure 4 (.pure 5 (.pure 7 (.act 6 (.act 8 (.pure 9 (.act 10 (.pure 11 (.pure 12 (.act 13 (.pure 14 .done))))))))))))))) (fun j => j = m3) mix (by kernel_rfl) hm fun w hw hm0 hh => ?_
  have hm := hm0
  refine rw_p rfl rfl (y_fieldAddr rfl fo23_0) ?_
  refine rw_p rfl rfl (y_load rfl sc3 (hm0.nd 2 rfl (hm0.ne 2 0 rfl rfl rfl)) rfl) ?_
  refine rw_p rfl rfl (y_fieldAddr rfl fo23_0) ?_
  refine rw_p rfl rfl (y_load rfl sc3 (hm0.nd 1 rfl (hm0.ne 1 0 rfl rfl rfl)) rfl) ?_
  refine rw_p rfl rfl (y_max rfl rfl) ?_
  refine rw_p rfl rfl (y_loadA (s := 2) (vs := [_, _]) rfl ag23 (hm0.nd 2 rfl (hm0.ne 2 0 rfl rfl rfl)) rfl) ?_
  refine rw_p rfl rfl (y_loadA (s := 2) (vs := [_, _]) rfl ag23 (hm0.nd 1 rfl (hm0.ne 1 0 rfl rfl rfl)) rfl) ?_
  refine a_call rfl rfl rfl go12 (ext_end _ _ _ (by omega)) fun v w hR => ?_
  obtain ⟨rfl, hE⟩ := hR
  refine ⟨hh.ext hE, ?_⟩
  replace hm := hm.ext hE
  replace hh := hh.ext hE
  refine a_call rfl rfl rfl go12 (ext_end _ _ _ (by omega)) fun v w hR => ?_
  obtain ⟨rfl, hE⟩ := hR
  refine ⟨hh.ext hE, ?_⟩
  replace hm := hm.ext hE
  replace hh := hh.ext hE
  refine rw_p rfl rfl (y_min rfl rfl) ?_
  refine a_call rfl rfl rfl go26 (ext_between _ _ _ _ (by omega)) fun v w hR => ?_
  obtain ⟨rfl, hE⟩ := hR
  refine ⟨hh.ext hE, ?_⟩
  replace hm := hm.ext hE
  replace hh := hh.ext hE
  refine rw_p rfl rfl (y_extract rfl rfl) ?_
  refine rw_p rfl rfl (y_extract rfl rfl) ?_
  refine a_storeN rfl rfl rfl rfl sz23 rfl hm 0 rfl rfl hh (.inr rfl) fun w hm hh => ?_
  refine rw_p rfl rfl (y_assign rfl) ?_
  refine rw_done ?_
  refine gn_sq ?_
  refine HW_ret rfl ?_
  refine toR (fin hret rfl (.cell rfl (run_loadVar_a (vs := [_, _]) ag23 (hm.get (k := 0) rfl) rfl) (.tmp rfl .nil)) .more ?_)
  exact ⟨rfl, hm.to⟩

theorem ext_join (a b c e : Int) (w0 : World) (h1 : 0 ≤ a ∧ 0 ≤ b ∧ a + b ≤ 9223372036854775807) (h2 : 0 ≤ c ∧ 0 ≤ e ∧ c + e ≤ 9223372036854775807) : C Try.prog 24 [.agg #[.int .i64 a, .int .i64 b], .agg #[.int .i64 c, .int .i64 e]] w0 fun v w' => v = .tuple ⟨[.agg ⟨exV (Pl.joined a b c e)⟩, .bool (Pl.joined a b c e).isSome]⟩ ∧ Ext No w0 w' := by
  refine C_of Try.func24 rfl rfl rfl fun k hret hnorm => ?_
  have hm := Mem.start w0
  refine HW_seq rfl ?_
  refine HW_text (.act 0 (.act 1 (.act 2 (.pure 3 .done)))) (by kernel_rfl) ?_
  refine a_box rfl rfl rfl rfl hm trivial fun m1 w hg_m1 hm hh => ?_
  refine a_box rfl rfl rfl rfl hm trivial fun m2 w hg_m2 hm hh => ?_
  refine a_alloc rfl rfl z23 hm trivial fun m3 w hg_m3 hm hh => ?_
  refine rw_p rfl rfl (y_assign rfl) ?_
  refine rw_done ?_
  refine gn_sq ?_
  refine HW_seq rfl ?_
  refine HW_seq rfl ?_
  refine HW_draw (.pure 0 (.pure 1 (.pure 2 (.pure 3 (.pure 4 (.pure 5 (.pure 7 (.act2 6 (.act2 8 (.pure 9 (.act2 10 (.pure 11 (.pure 12 (.pure 13 (.act 14 (.act 15 (.pure 16 .done)))))) 14 (.act 10 (.pure 11 (.pure 12 (.pure 13 (.act 15 (.pure 16 .done)))))))) 14 (.act 8 (.pure 9 (.act 10 (.pure 11 (.pure 12 (.pure 13 (.act 15 (.pure 16 .done))))))))) 14 (.act 6 (.act 8 (.pure 9 (.act 10 (.pure 11 (.pure 12 (.pure 13 (.act 15 (.pure 16 .done))))))))))))))))) No mix (by kernel_rfl) hm fun w hw hm0 hh => ?_
  have hm := hm0
  refine rw_p rfl rfl (y_fieldAddr rfl fo23_0) ?_
  refine rw_p rfl rfl (y_load rfl sc3 (hm0.nd 2 rfl id) rfl) ?_
  refine rw_p rfl rfl (y_fieldAddr rfl fo23_0) ?_
  refine rw_p rfl rfl (y_load rfl sc3 (hm0.nd 1 rfl id) rfl) ?_
  refine rw_p rfl rfl (y_max rfl rfl) ?_
  refine rw_p rfl rfl (y_loadA (s := 2) (vs := [_, _]) rfl ag23 (hm0.nd 2 rfl id) rfl) ?_
  refine rw_p rfl rfl (y_loadA (s := 2) (vs := [_, _]) rfl ag23 (hm0.nd 1 rfl id) rfl) ?_
  refine a_two ?_ ?_
  ·
    refine a_call rfl rfl rfl go12 (ext_end _ _ _ (by omega)) fun v w hR => ?_
    obtain ⟨rfl, hE⟩ := hR
    refine ⟨hh.ext hE, ?_⟩
    replace hm := hm.ext hE
    replace hh := hh.ext hE
    refine a_two ?_ ?_
    ·
      refine a_call rfl rfl rfl go12 (ext_end _ _ _ (by omega)) fun v w hR => ?_
      obtain ⟨rfl, hE⟩ := hR
      refine ⟨hh.ext hE, ?_⟩
      replace hm := hm.ext hE
      replace hh := hh.ext hE
      refine rw_p rfl rfl (y_min rfl rfl) ?_
      refine a_two ?_ ?_
      ·
        refine a_call rfl rfl rfl go26 (ext_between _ _ _ _ (by omega)) fun v w hR => ?_
        obtain ⟨rfl, hE⟩ := hR
        refine ⟨hh.ext hE, ?_⟩
        replace hm := hm.ext hE
        replace hh := hh.ext hE
        refine rw_p rfl rfl (y_move rfl) ?_
        refine rw_p rfl rfl (y_extract rfl rfl) ?_
        refine rw_p rfl rfl (y_extract rfl rfl) ?_
        refine a_alloc rfl rfl z23 hm hh fun m4 w hg_m4 hm hh => ?_
        refine a_storeN rfl rfl rfl rfl sz23 rfl hm 0 rfl rfl hh (.inl hg_m4) fun w hm hh => ?_
        refine rw_p rfl rfl (y_assign rfl) ?_
        refine rw_done ?_
        refine gn_sq ?_
        refine HW_seq rfl ?_
        refine HW_text (.pure 0 (.pure 1 .done)) (by kernel_rfl) ?_
        refine rw_p rfl rfl (y_move rfl) ?_
        refine rw_p rfl rfl (y_not rfl) ?_
        refine rw_done ?_
        refine gn_sq ?_
        refine HW_cond rfl rfl (fun hc0 => ?_) (fun hc0 => ?_)
        ·
          simp only [Bool.not_eq_true'] at hc0
          refine HW_seq rfl ?_
          refine HW_text (.pure 0 (.act 1 (.pure 2 .done))) (by kernel_rfl) ?_
          refine rw_p rfl rfl (y_build (cs := [_, _]) z23 ft23 rfl rfl rfl rfl rfl) ?_
          refine a_store rfl rfl rfl rfl sz23 rfl hm 1 rfl rfl fun w hm => ?_
          refine rw_p rfl rfl (y_assign rfl) ?_
          refine rw_done ?_
          refine gn_sq ?_
          refine HW_ret rfl ?_
          refine gr_sq ?_
          refine toR (fin hret rfl (.cell rfl (run_loadVar_a (vs := [_, _]) ag23 (hm.get (k := 1) rfl) rfl) (.tmp rfl .nil)) .more ?_)
          exact ⟨by simp [tup, Pl.joined, hc0, exV], hm.to⟩
        ·
          simp only [Bool.not_eq_false'] at hc0
          refine HW_skip rfl ?_
          refine gn_sq ?_
          refine HW_seq rfl ?_
          refine HW_draw (.pure 0 (.pure 1 (.pure 2 (.pure 3 (.pure 4 (.pure 5 (.pure 7 (.act 6 (.act 8 (.pure 9 (.act 10 (.pure 11 (.pure 12 (.act 13 (.pure 14 .done))))))))))))))) (fun j => j = m3) mix (by kernel_rfl) hm fun w hw hm0 hh => ?_
          have hm := hm0
          refine rw_p rfl rfl (y_fieldAddr rfl fo23_0) ?_
          refine rw_p rfl rfl (y_load rfl sc3 (hm0.nd 3 rfl (hm0.ne 3 1 rfl rfl rfl)) rfl) ?_
          refine rw_p rfl rfl (y_fieldAddr rfl fo23_0) ?_
          refine rw_p rfl rfl (y_load rfl sc3 (hm0.nd 2 rfl (hm0.ne 2 1 rfl rfl rfl)) rfl) ?_
          refine rw_p rfl rfl (y_min rfl rfl) ?_
          refine rw_p rfl rfl (y_loadA (s := 2) (vs := [_, _]) rfl ag23 (hm0.nd 3 rfl (hm0.ne 3 1 rfl rfl rfl)) rfl) ?_
          refine rw_p rfl rfl (y_loadA (s := 2) (vs := [_, _]) rfl ag23 (hm0.nd 2 rfl (hm0.ne 2 1 rfl rfl rfl)) rfl) ?_
          refine a_call rfl rfl rfl go12 (ext_end _ _ _ (by omega)) fun v w hR => ?_
          obtain ⟨rfl, hE⟩ := hR
          refine ⟨hh.ext hE, ?_⟩
          replace hm := hm.ext hE
          replace hh := hh.ext hE
          refine a_call rfl rfl rfl go12 (ext_end _ _ _ (by omega)) fun v w hR => ?_
          obtain ⟨rfl, hE⟩ := hR
          refine ⟨hh.ext hE, ?_⟩
          replace hm := hm.ext hE
          replace hh := hh.ext hE
          refine rw_p rfl rfl (y_max rfl rfl) ?_
          refine a_call rfl rfl rfl go26 (ext_between _ _ _ _ (by omega)) fun v w hR => ?_
          obtain ⟨rfl, hE⟩ := hR
          refine ⟨hh.ext hE, ?_⟩
          replace hm := hm.ext hE
          replace hh := hh.ext hE
          refine rw_p rfl rfl (y_extract rfl rfl) ?_
          refine rw_p rfl rfl (y_extract rfl rfl) ?_
          refine a_storeN rfl rfl rfl rfl sz23 rfl hm 1 rfl rfl hh (.inr rfl) fun w hm hh => ?_
          refine rw_p rfl rfl (y_assign rfl) ?_
          refine rw_done ?_
          refine gn_sq ?_
          refine HW_ret rfl ?_
          refine toR (fin hret rfl (.cell rfl (run_loadVar_a (vs := [_, _]) ag23 (hm.get (k := 1) rfl) rfl) (.tmp rfl .nil)) .more ?_)
          exact ⟨by simp [tup, Pl.joined, hc0, exV], hm.to⟩
      ·
        refine a_alloc rfl rfl z23 hm hh fun m4 w hg_m4 hm hh => ?_
        refine a_call rfl rfl rfl go26 (ext_between _ _ _ _ (by omega)) fun v w hR => ?_
        obtain ⟨rfl, hE⟩ := hR
        refine ⟨hh.ext hE, ?_⟩
        replace hm := hm.ext hE
        replace hh := hh.ext hE
        refine rw_p rfl rfl (y_move rfl) ?_
        refine rw_p rfl rfl (y_extract rfl rfl) ?_
        refine rw_p rfl rfl (y_extract rfl rfl) ?_
        refine a_storeN rfl rfl rfl rfl sz23 rfl hm 0 rfl rfl hh (.inl hg_m4) fun w hm hh => ?_
        refine rw_p rfl rfl (y_assign rfl) ?_
        refine rw_done ?_
        refine gn_sq ?_
        refine HW_seq rfl ?_
        refine HW_text (.pure 0 (.pure 1 .done)) (by kernel_rfl) ?_
        refine rw_p rfl rfl (y_move rfl) ?_
        refine rw_p rfl rfl (y_not rfl) ?_
        refine rw_done ?_
        refine gn_sq ?_
        refine HW_cond rfl rfl (fun hc0 => ?_) (fun hc0 => ?_)
        ·
          simp only [Bool.not_eq_true'] at hc0
          refine HW_seq rfl ?_
          refine HW_text (.pure 0 (.act 1 (.pure 2 .done))) (by kernel_rfl) ?_
          refine rw_p rfl rfl (y_build (cs := [_, _]) z23 ft23 rfl rfl rfl rfl rfl) ?_
          refine a_store rfl rfl rfl rfl sz23 rfl hm 1 rfl rfl fun w hm => ?_
          refine rw_p rfl rfl (y_assign rfl) ?_
          refine rw_done ?_
          refine gn_sq ?_
          refine HW_ret rfl ?_
          refine gr_sq ?_
          refine toR (fin hret rfl (.cell rfl (run_loadVar_a (vs := [_, _]) ag23 (hm.get (k := 1) rfl) rfl) (.tmp rfl .nil)) .more ?_)
          exact ⟨by simp [tup, Pl.joined, hc0, exV], hm.to⟩
        ·
          simp only [Bool.not_eq_false'] at hc0
          refine HW_skip rfl ?_
          refine gn_sq ?_
          refine HW_seq rfl ?_
          refine HW_draw (.pure 0 (.pure 1 (.pure 2 (.pure 3 (.pure 4 (.pure 5 (.pure 7 (.act 6 (.act 8 (.pure 9 (.act 10 (.pure 11 (.pure 12 (.act 13 (.pure 14 .done))))))))))))))) (fun j => j = m3) mix (by kernel_rfl) hm fun w hw hm0 hh => ?_
          have hm := hm0
          refine rw_p rfl rfl (y_fieldAddr rfl fo23_0) ?_
          refine rw_p rfl rfl (y_load rfl sc3 (hm0.nd 3 rfl (hm0.ne 3 1 rfl rfl rfl)) rfl) ?_
          refine rw_p rfl rfl (y_fieldAddr rfl fo23_0) ?_
          refine rw_p rfl rfl (y_load rfl sc3 (hm0.nd 2 rfl (hm0.ne 2 1 rfl rfl rfl)) rfl) ?_
          refine rw_p rfl rfl (y_min rfl rfl) ?_
          refine rw_p rfl rfl (y_loadA (s := 2) (vs := [_, _]) rfl ag23 (hm0.nd 3 rfl (hm0.ne 3 1 rfl rfl rfl)) rfl) ?_
          refine rw_p rfl rfl (y_loadA (s := 2) (vs := [_, _]) rfl ag23 (hm0.nd 2 rfl (hm0.ne 2 1 rfl rfl rfl)) rfl) ?_
          refine a_call rfl rfl rfl go12 (ext_end _ _ _ (by omega)) fun v w hR => ?_
          obtain ⟨rfl, hE⟩ := hR
          refine ⟨hh.ext hE, ?_⟩
          replace hm := hm.ext hE
          replace hh := hh.ext hE
          refine a_call rfl rfl rfl go12 (ext_end _ _ _ (by omega)) fun v w hR => ?_
          obtain ⟨rfl, hE⟩ := hR
          refine ⟨hh.ext hE, ?_⟩
          replace hm := hm.ext hE
          replace hh := hh.ext hE
          refine rw_p rfl rfl (y_max rfl rfl) ?_
          refine a_call rfl rfl rfl go26 (ext_between _ _ _ _ (by omega)) fun v w hR => ?_
          obtain ⟨rfl, hE⟩ := hR
          refine ⟨hh.ext hE, ?_⟩
          replace hm := hm.ext hE
          replace hh := hh.ext hE
          refine rw_p rfl rfl (y_extract rfl rfl) ?_
          refine rw_p rfl rfl (y_extract rfl rfl) ?_
          refine a_storeN rfl rfl rfl rfl sz23 rfl hm 1 rfl rfl hh (.inr rfl) fun w hm hh => ?_
          refine rw_p rfl rfl (y_assign rfl) ?_
          refine rw_done ?_
          refine gn_sq ?_
          refine HW_ret rfl ?_
          refine toR (fin hret rfl (.cell rfl (run_loadVar_a (vs := [_, _]) ag23 (hm.get (k := 1) rfl) rfl) (.tmp rfl .nil)) .more ?_)
          exact ⟨by simp [tup, Pl.joined, hc0, exV], hm.to⟩
    ·
      refine a_alloc rfl rfl z23 hm hh fun m4 w hg_m4 hm hh => ?_
      refine a_call rfl rfl rfl go12 (ext_end _ _ _ (by omega)) fun v w hR => ?_
      obtain ⟨rfl, hE⟩ := hR
      refine ⟨hh.ext hE, ?_⟩
      replace hm := hm.ext hE
      replace hh := hh.ext hE
      refine rw_p rfl rfl (y_min rfl rfl) ?_
      refine a_call rfl rfl rfl go26 (ext_between _ _ _ _ (by omega)) fun v w hR => ?_
      obtain ⟨rfl, hE⟩ := hR
      refine ⟨hh.ext hE, ?_⟩
      replace hm := hm.ext hE
      replace hh := hh.ext hE
      refine rw_p rfl rfl (y_move rfl) ?_
      refine rw_p rfl rfl (y_extract rfl rfl) ?_
      refine rw_p rfl rfl (y_extract rfl rfl) ?_
      refine a_storeN rfl rfl rfl rfl sz23 rfl hm 0 rfl rfl hh (.inl hg_m4) fun w hm hh => ?_
      refine rw_p rfl rfl (y_assign rfl) ?_
      refine rw_done ?_
      refine gn_sq ?_
      refine HW_seq rfl ?_
      refine HW_text (.pure 0 (.pure 1 .done)) (by kernel_rfl) ?_
      refine rw_p rfl rfl (y_move rfl) ?_
      refine rw_p rfl rfl (y_not rfl) ?_
      refine rw_done ?_
      refine gn_sq ?_
      refine HW_cond rfl rfl (fun hc0 => ?_) (fun hc0 => ?_)
      ·
        simp only [Bool.not_eq_true'] at hc0
        refine HW_seq rfl ?_
        refine HW_text (.pure 0 (.act 1 (.pure 2 .done))) (by kernel_rfl) ?_
        refine rw_p rfl rfl (y_build (cs := [_, _]) z23 ft23 rfl rfl rfl rfl rfl) ?_
        refine a_store rfl rfl rfl rfl sz23 rfl hm 1 rfl rfl fun w hm => ?_
        refine rw_p rfl rfl (y_assign rfl) ?_
        refine rw_done ?_
        refine gn_sq ?_
        refine HW_ret rfl ?_
        refine gr_sq ?_
        refine toR (fin hret rfl (.cell rfl (run_loadVar_a (vs := [_, _]) ag23 (hm.get (k := 1) rfl) rfl) (.tmp rfl .nil)) .more ?_)
        exact ⟨by simp [tup, Pl.joined, hc0, exV], hm.to⟩
      ·
        simp only [Bool.not_eq_false'] at hc0
        refine HW_skip rfl ?_
        refine gn_sq ?_
        refine HW_seq rfl ?_
        refine HW_draw (.pure 0 (.pure 1 (.pure 2 (.pure 3 (.pure 4 (.pure 5 (.pure 7 (.act 6 (.act 8 (.pure 9 (.act 10 (.pure 11 (.pure 12 (.act 13 (.pure 14 .done))))))))))))))) (fun j => j = m3) mix (by kernel_rfl) hm fun w hw hm0 hh => ?_
        have hm := hm0
        refine rw_p rfl rfl (y_fieldAddr rfl fo23_0) ?_
        refine rw_p rfl rfl (y_load rfl sc3 (hm0.nd 3 rfl (hm0.ne 3 1 rfl rfl rfl)) rfl) ?_
        refine rw_p rfl rfl (y_fieldAddr rfl fo23_0) ?_
        refine rw_p rfl rfl (y_load rfl sc3 (hm0.nd 2 rfl (hm0.ne 2 1 rfl rfl rfl)) rfl) ?_
        refine rw_p rfl rfl (y_min rfl rfl) ?_
        refine rw_p rfl rfl (y_loadA (s := 2) (vs := [_, _]) rfl ag23 (hm0.nd 3 rfl (hm0.ne 3 1 rfl rfl rfl)) rfl) ?_
        refine rw_p rfl rfl (y_loadA (s := 2) (vs := [_, _]) rfl ag23 (hm0.nd 2 rfl (hm0.ne 2 1 rfl rfl rfl)) rfl) ?_
        refine a_call rfl rfl rfl go12 (ext_end _ _ _ (by omega)) fun v w hR => ?_
        obtain ⟨rfl, hE⟩ := hR
        refine ⟨hh.ext hE, ?_⟩
        replace hm := hm.ext hE
        replace hh := hh.ext hE
        refine a_call rfl rfl rfl go12 (ext_end _ _ _ (by omega)) fun v w hR => ?_
        obtain ⟨rfl, hE⟩ := hR
        refine ⟨hh.ext hE, ?_⟩
        replace hm := hm.ext hE
        replace hh := hh.ext hE
        refine rw_p rfl rfl (y_max rfl rfl) ?_
        refine a_call rfl rfl rfl go26 (ext_between _ _ _ _ (by omega)) fun v w hR => ?_
        obtain ⟨rfl, hE⟩ := hR
        refine ⟨hh.ext hE, ?_⟩
        replace hm := hm.ext hE
        replace hh := hh.ext hE
        refine rw_p rfl rfl (y_extract rfl rfl) ?_
        refine rw_p rfl rfl (y_extract rfl rfl) ?_
        refine a_storeN rfl rfl rfl rfl sz23 rfl hm 1 rfl rfl hh (.inr rfl) fun w hm hh => ?_
        refine rw_p rfl rfl (y_assign rfl) ?_
        refine rw_done ?_
        refine gn_sq ?_
        refine HW_ret rfl ?_
        refine toR (fin hret rfl (.cell rfl (run_loadVar_a (vs := [_, _]) ag23 (hm.get (k := 1) rfl) rfl) (.tmp rfl .nil)) .more ?_)
        exact ⟨by simp [tup, Pl.joined, hc0, exV], hm.to⟩
  ·
    refine a_alloc rfl rfl z23 hm hh fun m4 w hg_m4 hm hh => ?_
    refine a_call rfl rfl rfl go12 (ext_end _ _ _ (by omega)) fun v w hR => ?_
    obtain ⟨rfl, hE⟩ := hR
    refine ⟨hh.ext hE, ?_⟩
    replace hm := hm.ext hE
    replace hh := hh.ext hE
    refine a_call rfl rfl rfl go12 (ext_end _ _ _ (by omega)) fun v w hR => ?_
    obtain ⟨rfl, hE⟩ := hR
    refine ⟨hh.ext hE, ?_⟩
    replace hm := hm.ext hE
    replace hh := hh.ext hE
    refine rw_p rfl rfl (y_min rfl rfl) ?_
    refine a_call rfl rfl rfl go26 (ext_between _ _ _ _ (by omega)) fun v w hR => ?_
    obtain ⟨rfl, hE⟩ := hR
    refine ⟨hh.ext hE, ?_⟩
    replace hm := hm.ext hE
    replace hh := hh.ext hE
    refine rw_p rfl rfl (y_move rfl) ?_
    refine rw_p rfl rfl (y_extract rfl rfl) ?_
    refine rw_p rfl rfl (y_extract rfl rfl) ?_
    refine a_storeN rfl rfl rfl rfl sz23 rfl hm 0 rfl rfl hh (.inl hg_m4) fun w hm hh => ?_
    refine rw_p rfl rfl (y_assign rfl) ?_
    refine rw_done ?_
    refine gn_sq ?_
    refine HW_seq rfl ?_
    refine HW_text (.pure 0 (.pure 1 .done)) (by kernel_rfl) ?_
    refine rw_p rfl rfl (y_move rfl) ?_
    refine rw_p rfl rfl (y_not rfl) ?_
    refine rw_done ?_
    refine gn_sq ?_
    refine HW_cond rfl rfl (fun hc0 => ?_) (fun hc0 => ?_)
    ·
      simp only [Bool.not_eq_true'] at hc0
      refine HW_seq rfl ?_
      refine HW_text (.pure 0 (.act 1 (.pure 2 .done))) (by kernel_rfl) ?_
      refine rw_p rfl rfl (y_build (cs := [_, _]) z23 ft23 rfl rfl rfl rfl rfl) ?_
      refine a_store rfl rfl rfl rfl sz23 rfl hm 1 rfl rfl fun w hm => ?_
      refine rw_p rfl rfl (y_assign rfl) ?_
      refine rw_done ?_
      refine gn_sq ?_
      refine HW_ret rfl ?_
      refine gr_sq ?_
      refine toR (fin hret rfl (.cell rfl (run_loadVar_a (vs := [_, _]) ag23 (hm.get (k := 1) rfl) rfl) (.tmp rfl .nil)) .more ?_)
      exact ⟨by simp [tup, Pl.joined, hc0, exV], hm.to⟩
    ·
      simp only [Bool.not_eq_false'] at hc0
      refine HW_skip rfl ?_
      refine gn_sq ?_
      refine HW_seq rfl ?_
      refine HW_draw (.pure 0 (.pure 1 (.pure 2 (.pure 3 (.pure 4 (.pure 5 (.pure 7 (.act 6 (.act 8 (.pure 9 (.act 10 (.pure 11 (.pure 12 (.act 13 (.pure 14 .done))))))))))))))) (fun j => j = m3) mix (by kernel_rfl) hm fun w hw hm0 hh => ?_
      have hm := hm0
      refine rw_p rfl rfl (y_fieldAddr rfl fo23_0) ?_
      refine rw_p rfl rfl (y_load rfl sc3 (hm0.nd 3 rfl (hm0.ne 3 1 rfl rfl rfl)) rfl) ?_
      refine rw_p rfl rfl (y_fieldAddr rfl fo23_0) ?_
      refine rw_p rfl rfl (y_load rfl sc3 (hm0.nd 2 rfl (hm0.ne 2 1 rfl rfl rfl)) rfl) ?_
      refine rw_p rfl rfl (y_min rfl rfl) ?_
      refine rw_p rfl rfl (y_loadA (s := 2) (vs := [_, _]) rfl ag23 (hm0.nd 3 rfl (hm0.ne 3 1 rfl rfl rfl)) rfl) ?_
      refine rw_p rfl rfl (y_loadA (s := 2) (vs := [_, _]) rfl ag23 (hm0.nd 2 rfl (hm0.ne 2 1 rfl rfl rfl)) rfl) ?_
      refine a_call rfl rfl rfl go12 (ext_end _ _ _ (by omega)) fun v w hR => ?_
      obtain ⟨rfl, hE⟩ := hR
      refine ⟨hh.ext hE, ?_⟩
      replace hm := hm.ext hE
      replace hh := hh.ext hE
      refine a_call rfl rfl rfl go12 (ext_end _ _ _ (by omega)) fun v w hR => ?_
      obtain ⟨rfl, hE⟩ := hR
      refine ⟨hh.ext hE, ?_⟩
      replace hm := hm.ext hE
      replace hh := hh.ext hE
      refine rw_p rfl rfl (y_max rfl rfl) ?_
      refine a_call rfl rfl rfl go26 (ext_between _ _ _ _ (by omega)) fun v w hR => ?_
      obtain ⟨rfl, hE⟩ := hR
      refine ⟨hh.ext hE, ?_⟩
      replace hm := hm.ext hE
      replace hh := hh.ext hE
      refine rw_p rfl rfl (y_extract rfl rfl) ?_
      refine rw_p rfl rfl (y_extract rfl rfl) ?_
      refine a_storeN rfl rfl rfl rfl sz23 rfl hm 1 rfl rfl hh (.inr rfl) fun w hm hh => ?_
      refine rw_p rfl rfl (y_assign rfl) ?_
      refine rw_done ?_
      refine gn_sq ?_
      refine HW_ret rfl ?_
      refine toR (fin hret rfl (.cell rfl (run_loadVar_a (vs := [_, _]) ag23 (hm.get (k := 1) rfl) rfl) (.tmp rfl .nil)) .more ?_)
      exact ⟨by simp [tup, Pl.joined, hc0, exV], hm.to⟩

theorem ext_shift (a b c : Int) (w0 : World) (h1 : 0 ≤ a ∧ 0 ≤ b ∧ a + b ≤ 4611686018427387903) (h2 : Pl.I64 c) : C Try.prog 13 [.agg #[.int .i64 a, .int .i64 b], .int .i64 c] w0 fun v w' => v = .tuple ⟨[.agg ⟨exV (Pl.shifted a b c)⟩, .bool (Pl.shifted a b c).isSome]⟩ ∧ Ext No w0 w' := by
  refine C_of Try.func13 rfl rfl rfl fun k hret hnorm => ?_
  have hm := Mem.start w0
  refine HW_seq rfl ?_
  refine HW_text (.act 0 (.act 1 (.pure 2 .done))) (by kernel_rfl) ?_
  refine a_box rfl rfl rfl rfl hm trivial fun m1 w hg_m1 hm hh => ?_
  refine a_alloc rfl rfl z23 hm trivial fun m2 w hg_m2 hm hh => ?_
  refine rw_p rfl rfl (y_assign rfl) ?_
  refine rw_done ?_
  refine gn_sq ?_
  refine HW_seq rfl ?_
  refine HW_seq rfl ?_
  refine HW_text (.pure 0 (.pure 1 (.pure 2 (.pure 3 (.pure 4 .done))))) (by kernel_rfl) ?_
  refine rw_p rfl rfl (y_move rfl) ?_
  refine rw_p rfl rfl (y_fieldAddr rfl fo23_0) ?_
  refine rw_p rfl rfl (y_load rfl sc3 (hm.nt 1 rfl) rfl) ?_
  refine rw_p rfl rfl (y_sub rfl rfl (i64w (by omega) (by omega))) ?_
  refine rw_p rfl rfl (y_gt rfl rfl) ?_
  refine rw_done ?_
  refine gn_sq ?_
  refine HW_cond rfl rfl (fun hc0 => ?_) (fun hc0 => ?_)
  ·
    simp only [Bool.and_eq_true, Bool.or_eq_true, Bool.and_eq_false_iff, Bool.or_eq_false_iff, Bool.not_eq_true', Bool.not_eq_false', decide_eq_true_eq, decide_eq_false_iff_not] at hc0
    refine HW_seq rfl ?_
    refine HW_text (.pure 0 (.act 1 (.pure 2 .done))) (by kernel_rfl) ?_
    refine rw_p rfl rfl (y_build (cs := [_, _]) z23 ft23 rfl rfl rfl rfl rfl) ?_
    refine a_store rfl rfl rfl rfl sz23 rfl hm 0 rfl rfl fun w hm => ?_
    refine rw_p rfl rfl (y_assign rfl) ?_
    refine rw_done ?_
    refine gn_sq ?_
    refine HW_ret rfl ?_
    refine gr_sq ?_
    refine toR (fin hret rfl (.cell rfl (run_loadVar_a (vs := [_, _]) ag23 (hm.get (k := 0) rfl) rfl) (.tmp rfl .nil)) .more ?_)
    exact ⟨by simp [tup, Pl.shifted, hc0, exV], hm.to⟩
  ·
    simp only [Bool.and_eq_true, Bool.or_eq_true, Bool.and_eq_false_iff, Bool.or_eq_false_iff, Bool.not_eq_true', Bool.not_eq_false', decide_eq_true_eq, decide_eq_false_iff_not] at hc0
    refine HW_skip rfl ?_
    refine gn_sq ?_
    refine HW_seq rfl ?_
    refine HW_text (.pure 0 (.pure 1 (.pure 2 (.pure 3 (.pure 4 (.act 5 .done)))))) (by kernel_rfl) ?_
    refine rw_p rfl rfl (y_fieldAddr rfl fo23_0) ?_
    refine rw_p rfl rfl (y_load rfl sc3 (hm.nt 1 rfl) rfl) ?_
    refine rw_p rfl rfl (y_move rfl) ?_
    refine rw_p rfl rfl (y_add rfl rfl (i64w (by omega) (by omega))) ?_
    refine rw_p rfl rfl (y_fieldAddr rfl fo23_0) ?_
    refine a_store rfl rfl rfl rfl sz3 rfl hm 1 rfl rfl fun w hm => ?_
    refine rw_done ?_
    refine gn_sq ?_
    refine HW_seq rfl ?_
    refine HW_seq rfl ?_
    refine HW_text (.pure 0 (.act 1 (.pure 2 .done))) (by kernel_rfl) ?_
    refine rw_p rfl rfl (y_loadA (s := 2) (vs := [_, _]) rfl ag23 (hm.nt 1 rfl) rfl) ?_
    refine a_call rfl rfl rfl go11 (ext_valid _ _ _ (by omega) (by omega)) fun v w hR => ?_
    obtain ⟨rfl, hE⟩ := hR
    refine ⟨trivial, ?_⟩
    replace hm := hm.ext hE
    refine rw_p rfl rfl (y_not rfl) ?_
    refine rw_done ?_
    refine gn_sq ?_
    refine HW_cond rfl rfl (fun hc1 => ?_) (fun hc1 => ?_)
    ·
      simp only [Bool.not_eq_true'] at hc1
      refine HW_seq rfl ?_
      refine HW_text (.pure 0 (.act 1 (.pure 2 .done))) (by kernel_rfl) ?_
      refine rw_p rfl rfl (y_build (cs := [_, _]) z23 ft23 rfl rfl rfl rfl rfl) ?_
      refine a_store rfl rfl rfl rfl sz23 rfl hm 0 rfl rfl fun w hm => ?_
      refine rw_p rfl rfl (y_assign rfl) ?_
      refine rw_done ?_
      refine gn_sq ?_
      refine HW_ret rfl ?_
      refine gr_sq ?_
      refine toR (fin hret rfl (.cell rfl (run_loadVar_a (vs := [_, _]) ag23 (hm.get (k := 0) rfl) rfl) (.tmp rfl .nil)) .more ?_)
      exact ⟨by simp [tup, Pl.shifted, hc0, hc1, exV], hm.to⟩
    ·
      simp only [Bool.not_eq_false'] at hc1
      refine HW_skip rfl ?_
      refine gn_sq ?_
      refine HW_seq rfl ?_
      refine HW_text (.pure 0 (.act 1 (.pure 2 .done))) (by kernel_rfl) ?_
      refine rw_p rfl rfl (y_loadA (s := 2) (vs := [_, _]) rfl ag23 (hm.nt 1 rfl) rfl) ?_
      refine a_store rfl rfl rfl rfl sz23 rfl hm 0 rfl rfl fun w hm => ?_
      refine rw_p rfl rfl (y_assign rfl) ?_
      refine rw_done ?_
      refine gn_sq ?_
      refine HW_ret rfl ?_
      refine toR (fin hret rfl (.cell rfl (run_loadVar_a (vs := [_, _]) ag23 (hm.get (k := 0) rfl) rfl) (.tmp rfl .nil)) .more ?_)
      exact ⟨by simp [tup, Pl.shifted, hc0, hc1, exV], hm.to⟩

theorem ext_contains1 (c e a b : Int) (m : Nat) (w0 : World) (hb : w0.heap[m]? = some (Blk.row 23 [.int .i64 a, .int .i64 b]).toObj) (h1 : Pl.I64 (a + b)) (h2 : Pl.I64 (c + e)) : C Try.prog 28 [.agg #[.int .i64 c, .int .i64 e], .pointer (some ⟨m, 0, none⟩)] w0 fun v w' => v = .bool (!Pl.within a b c e) ∧ Ext No w0 w' := by
  refine C_of Try.func28 rfl rfl rfl fun k hret hnorm => ?_
  have hm := Mem.start w0
  refine HW_seq rfl ?_
  refine HW_text (.act 0 (.pure 1 .done)) (by kernel_rfl) ?_
  refine a_box rfl rfl rfl rfl hm trivial fun m1 w hg_m1 hm hh => ?_
  refine rw_p rfl rfl (y_assign rfl) ?_
  refine rw_done ?_
  refine gn_sq ?_
  refine HW_seq rfl ?_
  refine HW_draw (.pure 0 (.pure 1 (.pure 2 (.pure 3 (.pure 4 (.pure 5 (.pure 6 (.pure 8 (.act 7 (.act 9 (.pure 10 (.pure 11 (.pure 12 .done))))))))))))) No mix (by kernel_rfl) hm fun w hw hm0 hh => ?_
  have hm := hm0
  refine rw_p rfl rfl (y_fieldAddr rfl fo23_0) ?_
  refine rw_p rfl rfl (y_load rfl sc3 (hm0.nd 0 rfl id) rfl) ?_
  refine rw_p rfl rfl (y_fieldAddr rfl fo23_0) ?_
  refine rw_p rfl rfl (y_load rfl sc3 (fun u hu => (hm0.to.trans hu).same _ (Array.getElem?_eq_some_iff.1 hb).1 id |>.trans hb) rfl) ?_
  refine rw_p rfl rfl (y_lt rfl rfl) ?_
  refine rw_p rfl rfl (y_move rfl) ?_
  refine rw_g rfl rfl rfl (fun hc => (y_loadA (s := 2) (vs := [_, _]) rfl ag23 (hm0.nd 0 rfl id) rfl)) ?_
  refine rw_g rfl rfl rfl (fun hc => (y_loadA (s := 2) (vs := [_, _]) rfl ag23 (fun u hu => (hm0.to.trans hu).same _ (Array.getElem?_eq_some_iff.1 hb).1 id |>.trans hb) rfl)) ?_
  refine a_callG rfl rfl rfl (fun hc => (evs_c (gx hc rfl) evs_n)) go12 (fun hc => (ext_end _ _ _ (by omega))) hh fun w hE hh => ?_
  replace hm := hm.ext hE
  refine a_callG rfl rfl rfl (fun hc => (evs_c (gx hc rfl) evs_n)) go12 (fun hc => (ext_end _ _ _ (by omega))) hh fun w hE hh => ?_
  replace hm := hm.ext hE
  refine rw_g rfl rfl rfl (fun hc => (y_gt (gx hc rfl) (gx hc rfl))) ?_
  refine rw_p rfl rfl (y_or rfl rfl rfl) ?_
  refine rw_p rfl rfl (y_assign rfl) ?_
  refine rw_done ?_
  refine gn_sq ?_
  refine HW_ret rfl ?_
  refine toR (fin hret rfl (.tmp rfl .nil) .one ?_)
  exact ⟨congrArg Value.bool (by rw [Bool.eq_iff_iff]; simp [Pl.within]), hm.to⟩

theorem idxf_ext (p : Option Addr) (cap : Nat) (xs : List (Int × Int)) (fi : FuncId) (l2 : List Value) (pred : (Int × Int) → Bool) (w0 : World) (hx : Rd w0 p (xs.flatMap encE)) (hlen : xs.length ≤ 9223372036854775807) (hg : isGo Try.prog fi = true) (hf : ∀ x w1, x ∈ xs → Ext No w0 w1 → C Try.prog fi (.agg ⟨encE x⟩ :: l2) w1 fun v w2 => v = .bool (pred x) ∧ Ext No w1 w2) : C Try.prog 30 [.slice p xs.length cap, .func (.func fi) #[] ⟨l2⟩] w0 fun v w' => v = .int .i64 (Pl.idx pred xs) ∧ Ext No w0 w' := by
  refine C_of Try.func30 rfl rfl rfl fun k hret hnorm => ?_
  have hm := Mem.start w0
  refine HW_seq rfl ?_
  refine HW_text (.pure 0 .done) (by kernel_rfl) ?_
  refine rw_p rfl rfl (y_assign rfl) ?_
  refine rw_done ?_
  refine gn_sq ?_
  refine HW_seq rfl ?_
  refine HW_seq rfl ?_
  refine HW_text (.pure 0 (.pure 1 (.pure 2 .done))) (by kernel_rfl) ?_
  refine rw_p rfl rfl (y_move rfl) ?_
  refine rw_p rfl rfl (y_len rfl rfl sl35) ?_
  refine rw_p rfl rfl (y_move rfl) ?_
  refine rw_done ?_
  refine gn_sq ?_
  refine HW_block rfl ?_
  refine HW_loopK (ι := Nat) rfl (ks := [0, 1, 7]) (.cons rfl (.cons rfl (.cons rfl .nil))) (fun k => [(8, .int .i64 k)]) (fun k w => Mem w0 w No [] ∧ k ≤ xs.length ∧ ∀ (j : Nat) y, j < k → xs[j]? = some y → pred y = false) (fun k => xs.length - k) 0 (⟨hm, Nat.zero_le _, fun _ _ h => absurd h (Nat.not_lt_zero _)⟩) ⟨rfl, trivial⟩ (fun k w hM => ?_)
  obtain ⟨hm, hk, hno⟩ := hM
  refine HW_seq rfl ?_
  refine HW_text (.pure 0 .done) (by kernel_rfl) ?_
  refine rw_p rfl rfl (y_lt rfl rfl) ?_
  refine rw_done ?_
  refine gn_sq ?_
  refine HW_seq rfl ?_
  refine HW_cond rfl rfl (fun hc0 => ?_) (fun hc0 => ?_)
  ·
    simp only [decide_eq_true_eq] at hc0
    obtain ⟨x, hi⟩ : ∃ y_, xs[k]? = some y_ := ⟨_, List.getElem?_eq_getElem (by omega)⟩
    obtain ⟨qb, qo, rfl⟩ := hx.atI encE_len (by decide) hi
    refine HW_skip rfl ?_
    refine gn_sq ?_
    refine HW_seq rfl ?_
    refine HW_block rfl ?_
    refine HW_seq rfl ?_
    refine HW_text (.pure 0 (.pure 1 .done)) (by kernel_rfl) ?_
    refine rw_p rfl rfl (y_move rfl) ?_
    refine rw_p rfl rfl (y_assign rfl) ?_
    refine rw_done ?_
    refine gn_sq ?_
    refine HW_seq rfl ?_
    refine HW_text (.pure 0 (.pure 1 (.pure 2 (.pure 3 (.pure 4 (.act 5 .done)))))) (by kernel_rfl) ?_
    refine rw_p rfl rfl (y_move rfl) ?_
    refine rw_p rfl rfl (y_move rfl) ?_
    refine rw_p rfl rfl (y_move rfl) ?_
    refine rw_p rfl rfl (y_index rfl rfl sl35 rfl (by omega) (by omega)) ?_
    refine rw_p rfl rfl (y_elA rfl ag23 (hx.ext0 hm.to).nt encE_len hi) ?_
    refine a_callV rfl rfl rfl rfl hg (hf x _ (List.mem_of_getElem? hi) hm.to) fun v w hR => ?_
    obtain ⟨rfl, hE⟩ := hR
    refine ⟨trivial, ?_⟩
    replace hm := hm.ext hE
    refine rw_done ?_
    refine gn_sq ?_
    refine HW_cond rfl rfl (fun hc1 => ?_) (fun hc1 => ?_)
    ·
      refine HW_seq rfl ?_
      refine HW_text (.pure 0 (.pure 1 .done)) (by kernel_rfl) ?_
      refine rw_p rfl rfl (y_move rfl) ?_
      refine rw_p rfl rfl (y_assign rfl) ?_
      refine rw_done ?_
      refine gn_sq ?_
      refine HW_ret rfl ?_
      refine gr_bl (gr_sq (gr_lp (gr_bl (gr_sq ?_))))
      refine toR (fin hret rfl (.tmp rfl .nil) .one ?_)
      exact ⟨by rw [Pl.idx_first hi hc1 hno], hm.to⟩
    ·
      refine HW_skip rfl ?_
      refine gn_bl ?_
      refine gn_sq ?_
      refine HW_text (.pure 0 (.pure 1 .done)) (by kernel_rfl) ?_
      refine rw_p rfl rfl (y_add rfl rfl (i64w (by omega) (by omega))) ?_
      refine rw_p rfl rfl (y_move rfl) ?_
      refine rw_done ?_
      refine next (k + 1) (by omega) ⟨hm, by omega, fun j y hj hy => ?_⟩ ⟨nx k, rfl, rfl, rfl, trivial⟩
      rcases Nat.lt_or_ge j k with h | h
      · exact hno j y h hy
      · obtain rfl : j = k := by omega
        rw [hi] at hy; cases hy; exact hc1
  ·
    have hk : k = xs.length := by simp at hc0; omega
    subst hk
    refine HW_exit rfl ?_
    refine gx_sq (gx_lp ?_)
    refine gx_here ?_
    refine gn_sq ?_
    refine HW_seq rfl ?_
    refine HW_text (.pure 0 .done) (by kernel_rfl) ?_
    refine rw_p rfl rfl (y_assign rfl) ?_
    refine rw_done ?_
    refine gn_sq ?_
    refine HW_ret rfl ?_
    refine toR (fin hret rfl (.tmp rfl .nil) .one ?_)
    exact ⟨by rw [Pl.idx_none hno], hm.to⟩

theorem conf_ext (p : Option Addr) (cap : Nat) (xs : List (Int × Int)) (fi : FuncId) (l2 : List Value) (pred : (Int × Int) → Bool) (w0 : World) (hx : Rd w0 p (xs.flatMap encE)) (hlen : xs.length ≤ 9223372036854775807) (hg : isGo Try.prog fi = true) (hf : ∀ x w1, x ∈ xs → Ext No w0 w1 → C Try.prog fi (.agg ⟨encE x⟩ :: l2) w1 fun v w2 => v = .bool (pred x) ∧ Ext No w1 w2) : C Try.prog 27 [.slice p xs.length cap, .func (.func fi) #[] ⟨l2⟩] w0 fun v w' => v = .bool (xs.any pred) ∧ Ext No w0 w' := by
  refine C_of Try.func27 rfl rfl rfl fun k hret hnorm => ?_
  have hm := Mem.start w0
  refine HW_seq rfl ?_
  refine HW_text (.pure 0 .done) (by kernel_rfl) ?_
  refine rw_p rfl rfl (y_assign rfl) ?_
  refine rw_done ?_
  refine gn_sq ?_
  refine HW_seq rfl ?_
  refine HW_text (.pure 0 (.pure 1 (.act 2 (.pure 3 (.pure 4 .done))))) (by kernel_rfl) ?_
  refine rw_p rfl rfl (y_move rfl) ?_
  refine rw_p rfl rfl (y_move rfl) ?_
  refine a_call rfl rfl rfl go30 (idxf_ext p cap xs fi l2 pred _ hx hlen hg hf) fun v w hR => ?_
  obtain ⟨rfl, hE⟩ := hR
  refine ⟨trivial, ?_⟩
  replace hm := hm.ext hE
  refine rw_p rfl rfl (y_ge rfl rfl) ?_
  refine rw_p rfl rfl (y_assign rfl) ?_
  refine rw_done ?_
  refine gn_sq ?_
  refine HW_ret rfl ?_
  refine toR (fin hret rfl (.tmp rfl .nil) .one ?_)
  exact ⟨by rw [← Pl.idx_nonneg], hm.to⟩

theorem ext_contains (a b : Int) (p : Option Addr) (cap : Nat) (xs : List (Int × Int)) (w0 : World) (h1 : Pl.I64 (a + b)) (hx : Rd w0 p (xs.flatMap encE)) (hlen : xs.length ≤ 9223372036854775807) (hok : ∀ x ∈ xs, Pl.I64 (x.1 + x.2)) : C Try.prog 17 [.agg #[.int .i64 a, .int .i64 b], .slice p xs.length cap] w0 fun v w' => v = .bool (xs.all fun x => Pl.within a b x.1 x.2) ∧ Ext No w0 w' := by
  refine C_of Try.func17 rfl rfl rfl fun k hret hnorm => ?_
  have hm := Mem.start w0
  refine HW_seq rfl ?_
  refine HW_text (.act 0 (.pure 1 .done)) (by kernel_rfl) ?_
  refine a_box rfl rfl rfl rfl hm trivial fun m1 w hg_m1 hm hh => ?_
  refine rw_p rfl rfl (y_assign rfl) ?_
  refine rw_done ?_
  refine gn_sq ?_
  refine HW_seq rfl ?_
  refine HW_text (.pure 0 (.pure 1 (.act 2 (.pure 3 (.pure 4 .done))))) (by kernel_rfl) ?_
  refine rw_p rfl rfl (y_move rfl) ?_
  refine rw_p rfl rfl (y_func rfl rfl) ?_
  refine a_call rfl rfl rfl go27 (conf_ext p cap xs _ _ (fun x => !Pl.within a b x.1 x.2) _ (hx.ext0 hm.to) hlen go28 fun x w1 hm1 hx1 => ext_contains1 x.1 x.2 a b m1 w1 ((hx1.same _ (hm.lt (List.mem_cons_self)) id).trans (hm.get (k := 0) rfl)) (by omega) (hok x hm1)) fun v w hR => ?_
  obtain ⟨rfl, hE⟩ := hR
  refine ⟨trivial, ?_⟩
  replace hm := hm.ext hE
  refine rw_p rfl rfl (y_not rfl) ?_
  refine rw_p rfl rfl (y_assign rfl) ?_
  refine rw_done ?_
  refine gn_sq ?_
  refine HW_ret rfl ?_
  refine toR (fin hret rfl (.tmp rfl .nil) .one ?_)
  exact ⟨congrArg Value.bool (by simp [List.all_eq_not_any_not]), hm.to⟩

theorem ext_total (p : Option Addr) (cap : Nat) (xs : List (Int × Int)) (w0 : World) (hx : Rd w0 p (xs.flatMap encE)) (hlen : xs.length ≤ 9223372036854775807) (hok : ∀ x ∈ xs, Pl.okE x) : C Try.prog 21 [.slice p xs.length cap] w0 fun v w' => v = .tuple ⟨[.int .i64 ((Pl.total 0 xs).getD 0), .bool (Pl.total 0 xs).isSome]⟩ ∧ Ext No w0 w' := by
  refine C_of Try.func21 rfl rfl rfl fun k hret hnorm => ?_
  have hm := Mem.start w0
  refine HW_seq rfl ?_
  refine HW_text (.pure 0 (.pure 1 .done)) (by kernel_rfl) ?_
  refine rw_p rfl rfl (y_assign rfl) ?_
  refine rw_p rfl rfl (y_assign rfl) ?_
  refine rw_done ?_
  refine gn_sq ?_
  refine HW_seq rfl ?_
  refine HW_text (.pure 0 .done) (by kernel_rfl) ?_
  refine rw_p rfl rfl (y_assign rfl) ?_
  refine rw_done ?_
  refine gn_sq ?_
  refine HW_seq rfl ?_
  refine HW_seq rfl ?_
  refine HW_text (.pure 0 (.pure 1 (.pure 2 .done))) (by kernel_rfl) ?_
  refine rw_p rfl rfl (y_move rfl) ?_
  refine rw_p rfl rfl (y_len rfl rfl sl35) ?_
  refine rw_p rfl rfl (y_move rfl) ?_
  refine rw_done ?_
  refine gn_sq ?_
  refine HW_block rfl ?_
  refine HW_loopK (ι := Nat × Int) rfl (ks := [7, 8]) (.cons rfl (.cons rfl .nil)) (fun x => [(9, .int .i64 x.1), (4, .int .i64 x.2)]) (fun x w => Mem w0 w No [] ∧ x.1 ≤ xs.length ∧ 0 ≤ x.2 ∧ x.2 ≤ 4611686018427387903 ∧ Pl.total 0 xs = Pl.total x.2 (xs.drop x.1)) (fun x => xs.length - x.1) (0, 0) (⟨hm, Nat.zero_le _, by simp, by simp, by simp⟩) ⟨rfl, rfl, trivial⟩ (fun x w hM => ?_)
  obtain ⟨hm, hk, hn0, hn1, ht⟩ := hM
  refine HW_seq rfl ?_
  refine HW_text (.pure 0 .done) (by kernel_rfl) ?_
  refine rw_p rfl rfl (y_lt rfl rfl) ?_
  refine rw_done ?_
  refine gn_sq ?_
  refine HW_seq rfl ?_
  refine HW_cond rfl rfl (fun hc0 => ?_) (fun hc0 => ?_)
  ·
    simp only [decide_eq_true_eq] at hc0
    obtain ⟨el, hi⟩ : ∃ y_, xs[x.1]? = some y_ := ⟨_, List.getElem?_eq_getElem (by omega)⟩
    obtain ⟨qb, qo, rfl⟩ := hx.atI encE_len (by decide) hi
    have hel := hok el (List.mem_of_getElem? hi)
    unfold Pl.okE at hel
    refine HW_skip rfl ?_
    refine gn_sq ?_
    refine HW_seq rfl ?_
    refine HW_block rfl ?_
    refine HW_seq rfl ?_
    refine HW_text (.pure 0 (.pure 1 (.act 2 (.act 3 .done)))) (by kernel_rfl) ?_
    refine rw_p rfl rfl (y_index rfl rfl sl35 rfl (by omega) (by omega)) ?_
    refine rw_p rfl rfl (y_elA rfl ag23 (hx.ext0 hm.to).nt encE_len hi) ?_
    refine a_alloc rfl rfl z23 hm trivial fun m1 w hg_m1 hm hh => ?_
    refine a_store rfl rfl rfl rfl sz23 rfl hm 0 rfl rfl fun w hm => ?_
    refine rw_done ?_
    refine gn_sq ?_
    refine HW_seq rfl ?_
    refine HW_text (.pure 0 (.pure 1 (.pure 2 (.pure 3 (.pure 4 .done))))) (by kernel_rfl) ?_
    refine rw_p rfl rfl (y_move rfl) ?_
    refine rw_p rfl rfl (y_fieldAddr rfl fo23_1) ?_
    refine rw_p rfl rfl (y_load rfl sc3 (hm.nt 0 rfl) rfl) ?_
    refine rw_p rfl rfl (y_add rfl rfl (i64w (by omega) (by omega))) ?_
    refine rw_p rfl rfl (y_assign rfl) ?_
    refine rw_done ?_
    refine gn_sq ?_
    refine HW_seq rfl ?_
    refine HW_text (.pure 0 (.pure 1 .done)) (by kernel_rfl) ?_
    refine rw_p rfl rfl (y_move rfl) ?_
    refine rw_p rfl rfl (y_gt rfl rfl) ?_
    refine rw_done ?_
    refine gn_sq ?_
    refine HW_cond rfl rfl (fun hc1 => ?_) (fun hc1 => ?_)
    ·
      simp only [Bool.and_eq_true, Bool.or_eq_true, Bool.and_eq_false_iff, Bool.or_eq_false_iff, Bool.not_eq_true', Bool.not_eq_false', decide_eq_true_eq, decide_eq_false_iff_not] at hc1
      refine HW_seq rfl ?_
      refine HW_text (.pure 0 (.pure 1 .done)) (by kernel_rfl) ?_
      refine rw_p rfl rfl (y_assign rfl) ?_
      refine rw_p rfl rfl (y_assign rfl) ?_
      refine rw_done ?_
      refine gn_sq ?_
      refine HW_ret rfl ?_
      refine gr_bl (gr_sq (gr_lp (gr_bl (gr_sq ?_))))
      refine toR (fin hret rfl (.tmp rfl (.tmp rfl .nil)) .more ?_)
      have e : Pl.total 0 xs = none := by rw [ht, Pl.drop_cons hi, Pl.total, if_pos hc1]
      rw [e]; exact ⟨rfl, hm.to⟩
    ·
      simp only [Bool.and_eq_true, Bool.or_eq_true, Bool.and_eq_false_iff, Bool.or_eq_false_iff, Bool.not_eq_true', Bool.not_eq_false', decide_eq_true_eq, decide_eq_false_iff_not] at hc1
      refine HW_skip rfl ?_
      refine gn_bl ?_
      refine gn_sq ?_
      refine HW_text (.pure 0 (.pure 1 .done)) (by kernel_rfl) ?_
      refine rw_p rfl rfl (y_add rfl rfl (i64w (by omega) (by omega))) ?_
      refine rw_p rfl rfl (y_move rfl) ?_
      refine rw_done ?_
      refine next (x.1 + 1, x.2 + el.2) (by simp only; omega) ⟨hm.tail, by simp only; omega, by simp only; omega, by simp only; omega, ?_⟩ ⟨nx x.1, rfl, rfl, rfl, trivial⟩
      rw [ht, Pl.drop_cons hi, Pl.total, if_neg hc1]
  ·
    simp only [decide_eq_false_iff_not] at hc0
    have hk : x.1 = xs.length := by omega
    rw [hk, List.drop_length] at ht
    refine HW_exit rfl ?_
    refine gx_sq (gx_lp ?_)
    refine gx_here ?_
    refine gn_sq ?_
    refine HW_seq rfl ?_
    refine HW_text (.pure 0 (.pure 1 (.pure 2 .done))) (by kernel_rfl) ?_
    refine rw_p rfl rfl (y_move rfl) ?_
    refine rw_p rfl rfl (y_assign rfl) ?_
    refine rw_p rfl rfl (y_assign rfl) ?_
    refine rw_done ?_
    refine gn_sq ?_
    refine HW_ret rfl ?_
    refine toR (fin hret rfl (.tmp rfl (.tmp rfl .nil)) .more ?_)
    have e : Pl.total 0 xs = some x.2 := by rw [ht, Pl.total]
    rw [e]; exact ⟨rfl, hm.to⟩

theorem r1_total (p : Option Addr) (cap : Nat) (xs : List (Int × Int)) (w0 : World) (hx : Rd w0 p (xs.flatMap encE)) (hlen : xs.length ≤ 9223372036854775807) (hok : ∀ x ∈ xs, Pl.okE x) : C Try.prog 23 [.slice p xs.length cap] w0 fun v w' => v = .tuple ⟨[.int .i64 ((Pl.total 0 xs).getD 0), .bool (Pl.total 0 xs).isSome]⟩ ∧ Ext No w0 w' := by
  refine C_of Try.func23 rfl rfl rfl fun k hret hnorm => ?_
  have hm := Mem.start w0
  refine HW_seq rfl ?_
  refine HW_text (.pure 0 (.pure 1 .done)) (by kernel_rfl) ?_
  refine rw_p rfl rfl (y_assign rfl) ?_
  refine rw_p rfl rfl (y_assign rfl) ?_
  refine rw_done ?_
  refine gn_sq ?_
  refine HW_seq rfl ?_
  refine HW_text (.pure 0 .done) (by kernel_rfl) ?_
  refine rw_p rfl rfl (y_assign rfl) ?_
  refine rw_done ?_
  refine gn_sq ?_
  refine HW_seq rfl ?_
  refine HW_seq rfl ?_
  refine HW_text (.pure 0 .done) (by kernel_rfl) ?_
  refine rw_p rfl rfl (y_assign rfl) ?_
  refine rw_done ?_
  refine gn_sq ?_
  refine HW_block rfl ?_
  refine HW_loopK (ι := Nat × Int) rfl (ks := [0]) (.cons rfl .nil) (fun x => [(5, .int .i64 x.1), (4, .int .i64 x.2)]) (fun x w => Mem w0 w No [] ∧ x.1 ≤ xs.length ∧ 0 ≤ x.2 ∧ x.2 ≤ 4611686018427387903 ∧ Pl.total 0 xs = Pl.total x.2 (xs.drop x.1)) (fun x => xs.length - x.1) (0, 0) (⟨hm, Nat.zero_le _, by simp, by simp, by simp⟩) ⟨rfl, rfl, trivial⟩ (fun x w hM => ?_)
  obtain ⟨hm, hk, hn0, hn1, ht⟩ := hM
  refine HW_seq rfl ?_
  refine HW_seq rfl ?_
  refine HW_text (.pure 0 (.pure 1 (.pure 2 (.pure 3 .done)))) (by kernel_rfl) ?_
  refine rw_p rfl rfl (y_move rfl) ?_
  refine rw_p rfl rfl (y_move rfl) ?_
  refine rw_p rfl rfl (y_len rfl rfl sl35) ?_
  refine rw_p rfl rfl (y_lt rfl rfl) ?_
  refine rw_done ?_
  refine gn_sq ?_
  refine HW_cond rfl rfl (fun hc0 => ?_) (fun hc0 => ?_)
  ·
    simp only [decide_eq_true_eq] at hc0
    obtain ⟨el, hi⟩ : ∃ y_, xs[x.1]? = some y_ := ⟨_, List.getElem?_eq_getElem (by omega)⟩
    obtain ⟨qb, qo, rfl⟩ := hx.atI encE_len (by decide) hi
    have hel := hok el (List.mem_of_getElem? hi)
    unfold Pl.okE at hel
    refine HW_skip rfl ?_
    refine gn_sq ?_
    refine HW_seq rfl ?_
    refine HW_block rfl ?_
    refine HW_seq rfl ?_
    refine HW_seq rfl ?_
    refine HW_draw (.pure 0 (.pure 1 (.pure 2 (.pure 3 (.pure 4 (.pure 6 (.act 5 (.pure 7 (.pure 8 .done))))))))) No mix (by kernel_rfl) hm fun w hw hm0 hh => ?_
    have hm := hm0
    refine rw_p rfl rfl (y_move rfl) ?_
    refine rw_p rfl rfl (y_move rfl) ?_
    refine rw_p rfl rfl (y_index rfl rfl sl35 rfl (by omega) (by omega)) ?_
    refine rw_p rfl rfl (y_fieldAddr rfl fo23_1) ?_
    refine rw_p rfl rfl (y_elS rfl sc3 (hx.ext0 hm0.to).nd encE_len hi rfl) ?_
    refine rw_p rfl rfl (y_move rfl) ?_
    refine a_call rfl rfl rfl go14 (r1_max _) fun v w hR => ?_
    obtain ⟨rfl, hE⟩ := hR
    refine ⟨hh.ext hE, ?_⟩
    replace hm := hm.ext hE
    replace hh := hh.ext hE
    refine rw_p rfl rfl (y_sub rfl rfl (i64w (by omega) (by omega))) ?_
    refine rw_p rfl rfl (y_gt rfl rfl) ?_
    refine rw_done ?_
    refine gn_sq ?_
    refine HW_cond rfl rfl (fun hc1 => ?_) (fun hc1 => ?_)
    ·
      simp only [Bool.and_eq_true, Bool.or_eq_true, Bool.and_eq_false_iff, Bool.or_eq_false_iff, Bool.not_eq_true', Bool.not_eq_false', decide_eq_true_eq, decide_eq_false_iff_not] at hc1
      refine HW_seq rfl ?_
      refine HW_text (.pure 0 (.pure 1 .done)) (by kernel_rfl) ?_
      refine rw_p rfl rfl (y_assign rfl) ?_
      refine rw_p rfl rfl (y_assign rfl) ?_
      refine rw_done ?_
      refine gn_sq ?_
      refine HW_ret rfl ?_
      refine gr_sq (gr_bl (gr_sq (gr_lp (gr_bl (gr_sq ?_)))))
      refine toR (fin hret rfl (.tmp rfl (.tmp rfl .nil)) .more ?_)
      have e : Pl.total 0 xs = none := by rw [ht, Pl.drop_cons hi, Pl.total, if_pos (by omega)]
      rw [e]; exact ⟨rfl, hm.to⟩
    ·
      simp only [Bool.and_eq_true, Bool.or_eq_true, Bool.and_eq_false_iff, Bool.or_eq_false_iff, Bool.not_eq_true', Bool.not_eq_false', decide_eq_true_eq, decide_eq_false_iff_not] at hc1
      refine HW_skip rfl ?_
      refine gn_sq ?_
      refine HW_text (.pure 0 (.pure 1 (.pure 2 (.pure 3 (.pure 4 (.pure 5 (.pure 6 (.pure 7 .done)))))))) (by kernel_rfl) ?_
      refine rw_p rfl rfl (y_move rfl) ?_
      refine rw_p rfl rfl (y_move rfl) ?_
      refine rw_p rfl rfl (y_move rfl) ?_
      refine rw_p rfl rfl (y_index rfl rfl sl35 rfl (by omega) (by omega)) ?_
      refine rw_p rfl rfl (y_fieldAddr rfl fo23_1) ?_
      refine rw_p rfl rfl (y_elS rfl sc3 (hx.ext0 hm.to).nt encE_len hi rfl) ?_
      refine rw_p rfl rfl (y_add rfl rfl (i64w (by omega) (by omega))) ?_
      refine rw_p rfl rfl (y_assign rfl) ?_
      refine rw_done ?_
      refine gn_bl ?_
      refine gn_sq ?_
      refine HW_text (.pure 0 (.pure 1 (.pure 2 .done))) (by kernel_rfl) ?_
      refine rw_p rfl rfl (y_move rfl) ?_
      refine rw_p rfl rfl (y_add rfl rfl (i64w (by omega) (by omega))) ?_
      refine rw_p rfl rfl (y_assign rfl) ?_
      refine rw_done ?_
      refine next (x.1 + 1, x.2 + el.2) (by simp only; omega) ⟨hm, by simp only; omega, by simp only; omega, by simp only; omega, ?_⟩ ⟨nx x.1, rfl, rfl, trivial⟩
      rw [ht, Pl.drop_cons hi, Pl.total, if_neg (by omega)]
  ·
    simp only [decide_eq_false_iff_not] at hc0
    have hk : x.1 = xs.length := by omega
    rw [hk, List.drop_length] at ht
    refine HW_exit rfl ?_
    refine gx_sq (gx_lp ?_)
    refine gx_here ?_
    refine gn_sq ?_
    refine HW_seq rfl ?_
    refine HW_text (.pure 0 (.pure 1 (.pure 2 .done))) (by kernel_rfl) ?_
    refine rw_p rfl rfl (y_move rfl) ?_
    refine rw_p rfl rfl (y_assign rfl) ?_
    refine rw_p rfl rfl (y_assign rfl) ?_
    refine rw_done ?_
    refine gn_sq ?_
    refine HW_ret rfl ?_
    refine toR (fin hret rfl (.tmp rfl (.tmp rfl .nil)) .more ?_)
    have e : Pl.total 0 xs = some x.2 := by rw [ht, Pl.total]
    rw [e]; exact ⟨rfl, hm.to⟩

theorem r1_all (p : Option Addr) (cap : Nat) (xs : List (Int × Int)) (w0 : World) (hx : Rd w0 p (xs.flatMap encE)) (hlen : xs.length ≤ 9223372036854775807) (hok : ∀ x ∈ xs, Pl.I64 x.1 ∧ Pl.I64 x.2) : C Try.prog 22 [.slice p xs.length cap] w0 fun v w' => v = .bool (xs.all fun x => Pl.valid x.1 x.2) ∧ Ext No w0 w' := by
  refine C_of Try.func22 rfl rfl rfl fun k hret hnorm => ?_
  have hm := Mem.start w0
  refine HW_seq rfl ?_
  refine HW_text (.pure 0 .done) (by kernel_rfl) ?_
  refine rw_p rfl rfl (y_assign rfl) ?_
  refine rw_done ?_
  refine gn_sq ?_
  refine HW_seq rfl ?_
  refine HW_seq rfl ?_
  refine HW_text (.pure 0 .done) (by kernel_rfl) ?_
  refine rw_p rfl rfl (y_assign rfl) ?_
  refine rw_done ?_
  refine gn_sq ?_
  refine HW_block rfl ?_
  refine HW_loopK (ι := Nat) rfl (ks := [0]) (.cons rfl .nil) (fun k => [(3, .int .i64 k)]) (fun k w => Mem w0 w No [] ∧ k ≤ xs.length ∧ ∀ (j : Nat) y, j < k → xs[j]? = some y → Pl.valid y.1 y.2 = true) (fun k => xs.length - k) 0 (⟨hm, Nat.zero_le _, fun _ _ h => absurd h (Nat.not_lt_zero _)⟩) ⟨rfl, trivial⟩ (fun k w hM => ?_)
  obtain ⟨hm, hk, hno⟩ := hM
  refine HW_seq rfl ?_
  refine HW_seq rfl ?_
  refine HW_text (.pure 0 (.pure 1 (.pure 2 (.pure 3 .done)))) (by kernel_rfl) ?_
  refine rw_p rfl rfl (y_move rfl) ?_
  refine rw_p rfl rfl (y_move rfl) ?_
  refine rw_p rfl rfl (y_len rfl rfl sl35) ?_
  refine rw_p rfl rfl (y_lt rfl rfl) ?_
  refine rw_done ?_
  refine gn_sq ?_
  refine HW_cond rfl rfl (fun hc0 => ?_) (fun hc0 => ?_)
  ·
    simp only [decide_eq_true_eq] at hc0
    obtain ⟨x, hi⟩ : ∃ y_, xs[k]? = some y_ := ⟨_, List.getElem?_eq_getElem (by omega)⟩
    obtain ⟨qb, qo, rfl⟩ := hx.atI encE_len (by decide) hi
    have hel := hok x (List.mem_of_getElem? hi)
    refine HW_skip rfl ?_
    refine gn_sq ?_
    refine HW_seq rfl ?_
    refine HW_block rfl ?_
    refine HW_seq rfl ?_
    refine HW_text (.pure 0 (.pure 1 (.pure 2 (.pure 3 (.act 4 (.pure 5 .done)))))) (by kernel_rfl) ?_
    refine rw_p rfl rfl (y_move rfl) ?_
    refine rw_p rfl rfl (y_move rfl) ?_
    refine rw_p rfl rfl (y_index rfl rfl sl35 rfl (by omega) (by omega)) ?_
    refine rw_p rfl rfl (y_elA rfl ag23 (hx.ext0 hm.to).nt encE_len hi) ?_
    refine a_call rfl rfl rfl go9 (r1_valid _ _ _ (by omega) (by omega)) fun v w hR => ?_
    obtain ⟨rfl, hE⟩ := hR
    refine ⟨trivial, ?_⟩
    replace hm := hm.ext hE
    refine rw_p rfl rfl (y_not rfl) ?_
    refine rw_done ?_
    refine gn_sq ?_
    refine HW_cond rfl rfl (fun hc1 => ?_) (fun hc1 => ?_)
    ·
      simp only [Bool.not_eq_true'] at hc1
      refine HW_seq rfl ?_
      refine HW_text (.pure 0 .done) (by kernel_rfl) ?_
      refine rw_p rfl rfl (y_assign rfl) ?_
      refine rw_done ?_
      refine gn_sq ?_
      refine HW_ret rfl ?_
      refine gr_bl (gr_sq (gr_lp (gr_bl (gr_sq ?_))))
      refine toR (fin hret rfl (.tmp rfl .nil) .one ?_)
      exact ⟨by rw [Pl.notall hi hc1], hm.to⟩
    ·
      simp only [Bool.not_eq_false'] at hc1
      refine HW_skip rfl ?_
      refine gn_bl ?_
      refine gn_sq ?_
      refine HW_text (.pure 0 (.pure 1 (.pure 2 .done))) (by kernel_rfl) ?_
      refine rw_p rfl rfl (y_move rfl) ?_
      refine rw_p rfl rfl (y_add rfl rfl (i64w (by omega) (by omega))) ?_
      refine rw_p rfl rfl (y_assign rfl) ?_
      refine rw_done ?_
      refine next (k + 1) (by omega) ⟨hm, by omega, fun j y hj hy => ?_⟩ ⟨nx k, rfl, trivial⟩
      rcases Nat.lt_or_ge j k with h | h
      · exact hno j y h hy
      · obtain rfl : j = k := by omega
        rw [hi] at hy; cases hy; exact hc1
  ·
    simp only [decide_eq_false_iff_not] at hc0
    have hk : k = xs.length := by omega
    subst hk
    refine HW_exit rfl ?_
    refine gx_sq (gx_lp ?_)
    refine gx_here ?_
    refine gn_sq ?_
    refine HW_seq rfl ?_
    refine HW_text (.pure 0 .done) (by kernel_rfl) ?_
    refine rw_p rfl rfl (y_assign rfl) ?_
    refine rw_done ?_
    refine gn_sq ?_
    refine HW_ret rfl ?_
    refine toR (fin hret rfl (.tmp rfl .nil) .one ?_)
    exact ⟨by rw [Pl.alls hno], hm.to⟩

theorem r1_overlap (a b c e : Int) (w0 : World) (h1 : 0 ≤ a ∧ 0 ≤ b ∧ a + b ≤ 9223372036854775807) (h2 : 0 ≤ c ∧ 0 ≤ e ∧ c + e ≤ 9223372036854775807) : C Try.prog 16 [.agg #[.int .i64 a, .int .i64 b], .agg #[.int .i64 c, .int .i64 e]] w0 fun v w' => v = .agg ⟨exV (Pl.overlap a b c e)⟩ ∧ Ext No w0 w' := by
  refine C_of Try.func16 rfl rfl rfl fun k hret hnorm => ?_
  have hm := Mem.start w0
  refine HW_seq rfl ?_
  refine HW_text (.act 0 (.act 1 (.act 2 .done))) (by kernel_rfl) ?_
  refine a_box rfl rfl rfl rfl hm trivial fun m1 w hg_m1 hm hh => ?_
  refine a_box rfl rfl rfl rfl hm trivial fun m2 w hg_m2 hm hh => ?_
  refine a_alloc rfl rfl z23 hm trivial fun m3 w hg_m3 hm hh => ?_
  refine rw_done ?_
  refine gn_sq ?_
  refine HW_seq rfl ?_
  refine HW_text (.pure 0 (.pure 1 (.pure 2 (.pure 3 (.pure 4 (.pure 5 .done)))))) (by kernel_rfl) ?_
  refine rw_p rfl rfl (y_fieldAddr rfl fo23_0) ?_
  refine rw_p rfl rfl (y_load rfl sc3 (hm.nt 2 rfl) rfl) ?_
  refine rw_p rfl rfl (y_fieldAddr rfl fo23_0) ?_
  refine rw_p rfl rfl (y_load rfl sc3 (hm.nt 1 rfl) rfl) ?_
  refine rw_p rfl rfl (y_max rfl rfl) ?_
  refine rw_p rfl rfl (y_assign rfl) ?_
  refine rw_done ?_
  refine gn_sq ?_
  refine HW_seq rfl ?_
  refine HW_text (.pure 0 (.pure 1 (.pure 2 (.pure 3 (.pure 4 (.pure 5 (.pure 6 (.pure 7 (.pure 8 (.pure 9 (.pure 10 (.pure 11 .done)))))))))))) (by kernel_rfl) ?_
  refine rw_p rfl rfl (y_fieldAddr rfl fo23_0) ?_
  refine rw_p rfl rfl (y_load rfl sc3 (hm.nt 2 rfl) rfl) ?_
  refine rw_p rfl rfl (y_fieldAddr rfl fo23_1) ?_
  refine rw_p rfl rfl (y_load rfl sc3 (hm.nt 2 rfl) rfl) ?_
  refine rw_p rfl rfl (y_add rfl rfl (i64w (by omega) (by omega))) ?_
  refine rw_p rfl rfl (y_fieldAddr rfl fo23_0) ?_
  refine rw_p rfl rfl (y_load rfl sc3 (hm.nt 1 rfl) rfl) ?_
  refine rw_p rfl rfl (y_fieldAddr rfl fo23_1) ?_
  refine rw_p rfl rfl (y_load rfl sc3 (hm.nt 1 rfl) rfl) ?_
  refine rw_p rfl rfl (y_add rfl rfl (i64w (by omega) (by omega))) ?_
  refine rw_p rfl rfl (y_min rfl rfl) ?_
  refine rw_p rfl rfl (y_assign rfl) ?_
  refine rw_done ?_
  refine gn_sq ?_
  refine HW_seq rfl ?_
  refine HW_seq rfl ?_
  refine HW_text (.pure 0 (.pure 1 (.pure 2 .done))) (by kernel_rfl) ?_
  refine rw_p rfl rfl (y_move rfl) ?_
  refine rw_p rfl rfl (y_move rfl) ?_
  refine rw_p rfl rfl (y_ge rfl rfl) ?_
  refine rw_done ?_
  refine gn_sq ?_
  refine HW_cond rfl rfl (fun hc0 => ?_) (fun hc0 => ?_)
  ·
    simp only [Bool.and_eq_true, Bool.or_eq_true, Bool.and_eq_false_iff, Bool.or_eq_false_iff, Bool.not_eq_true', Bool.not_eq_false', decide_eq_true_eq, decide_eq_false_iff_not] at hc0
    refine HW_seq rfl ?_
    refine HW_text (.pure 0 (.act 1 .done)) (by kernel_rfl) ?_
    refine rw_p rfl rfl (y_build (cs := [_, _]) z23 ft23 rfl rfl rfl rfl rfl) ?_
    refine a_store rfl rfl rfl rfl sz23 rfl hm 0 rfl rfl fun w hm => ?_
    refine rw_done ?_
    refine gn_sq ?_
    refine HW_ret rfl ?_
    refine gr_sq ?_
    refine toR (fin hret rfl (.cell rfl (run_loadVar_a (vs := [_, _]) ag23 (hm.get (k := 0) rfl) rfl) .nil) .one ?_)
    exact ⟨by simp only [Pl.overlap, Pl.btw]; rw [if_pos (by omega)]; rfl, hm.to⟩
  ·
    simp only [Bool.and_eq_true, Bool.or_eq_true, Bool.and_eq_false_iff, Bool.or_eq_false_iff, Bool.not_eq_true', Bool.not_eq_false', decide_eq_true_eq, decide_eq_false_iff_not] at hc0
    refine HW_skip rfl ?_
    refine gn_sq ?_
    refine HW_seq rfl ?_
    refine HW_text (.pure 0 (.pure 1 (.pure 2 (.pure 3 (.pure 4 (.act 5 .done)))))) (by kernel_rfl) ?_
    refine rw_p rfl rfl (y_move rfl) ?_
    refine rw_p rfl rfl (y_move rfl) ?_
    refine rw_p rfl rfl (y_move rfl) ?_
    refine rw_p rfl rfl (y_sub rfl rfl (i64w (by omega) (by omega))) ?_
    refine rw_p rfl rfl (y_build (cs := [_, _]) z23 ft23 rfl rfl rfl rfl rfl) ?_
    refine a_store rfl rfl rfl rfl sz23 rfl hm 0 rfl rfl fun w hm => ?_
    refine rw_done ?_
    refine gn_sq ?_
    refine HW_ret rfl ?_
    refine toR (fin hret rfl (.cell rfl (run_loadVar_a (vs := [_, _]) ag23 (hm.get (k := 0) rfl) rfl) .nil) .one ?_)
    exact ⟨by simp only [Pl.overlap, Pl.btw]; rw [if_neg (by omega)]; rfl, hm.to⟩

theorem r1_pieces (a b c : Int) (w0 : World) (h : 0 ≤ b ∧ b ≤ 4611686018427387903) (hc : Pl.I64 c) : C Try.prog 19 [.agg #[.int .i64 a, .int .i64 b], .int .i64 c] w0 fun v w' => v = .int .i64 (Pl.pieces b c) ∧ Ext No w0 w' := by
  refine C_of Try.func19 rfl rfl rfl fun k hret hnorm => ?_
  have hm := Mem.start w0
  refine HW_seq rfl ?_
  refine HW_text (.act 0 (.pure 1 .done)) (by kernel_rfl) ?_
  refine a_box rfl rfl rfl rfl hm trivial fun m1 w hg_m1 hm hh => ?_
  refine rw_p rfl rfl (y_assign rfl) ?_
  refine rw_done ?_
  refine gn_sq ?_
  refine HW_seq rfl ?_
  refine HW_seq rfl ?_
  refine HW_text (.pure 0 (.pure 1 (.pure 2 (.pure 3 (.pure 4 (.pure 5 (.pure 6 (.pure 7 (.pure 8 (.pure 9 (.pure 10 (.pure 11 (.pure 12 (.pure 13 (.pure 14 .done))))))))))))))) (by kernel_rfl) ?_
  refine rw_p rfl rfl (y_move rfl) ?_
  refine rw_p rfl rfl (y_lt rfl rfl) ?_
  refine rw_p rfl rfl (y_move rfl) ?_
  refine rw_g rfl rfl rfl (fun hc => (y_fieldAddr rfl fo23_1)) ?_
  refine rw_g rfl rfl rfl (fun hc => (y_load (gx hc rfl) sc3 (hm.nt 0 rfl) rfl)) ?_
  refine rw_g rfl rfl rfl (fun hc => (y_eq (gx hc rfl) rfl)) ?_
  refine rw_p rfl rfl (y_or rfl rfl rfl) ?_
  refine rw_p rfl rfl (y_move rfl) ?_
  refine rw_g rfl rfl rfl (fun hc => (y_fieldAddr rfl fo23_1)) ?_
  refine rw_g rfl rfl rfl (fun hc => (y_load (gx hc rfl) sc3 (hm.nt 0 rfl) rfl)) ?_
  refine rw_g rfl rfl rfl (fun hc => (y_sub (gx hc rfl) rfl (i64w (by omega) (by omega)))) ?_
  refine rw_g rfl rfl rfl (fun hc => (y_move rfl)) ?_
  refine rw_g rfl rfl rfl (fun hc => (y_quo (gx hc rfl) (gx hc rfl) (by simp at hc; omega) (tdivw (by simp at hc; omega) (by omega) (by simp at hc; omega)))) ?_
  refine rw_g rfl rfl rfl (fun hc => (y_ge (gx hc rfl) rfl)) ?_
  refine rw_p rfl rfl (y_or rfl rfl rfl) ?_
  refine rw_done ?_
  refine gn_sq ?_
  refine HW_cond rfl rfl (fun hc0 => ?_) (fun hc0 => ?_)
  ·
    simp only [Bool.and_eq_true, Bool.or_eq_true, Bool.and_eq_false_iff, Bool.or_eq_false_iff, Bool.not_eq_true', Bool.not_eq_false', decide_eq_true_eq, decide_eq_false_iff_not] at hc0
    refine HW_seq rfl ?_
    refine HW_text (.pure 0 .done) (by kernel_rfl) ?_
    refine rw_p rfl rfl (y_assign rfl) ?_
    refine rw_done ?_
    refine gn_sq ?_
    refine HW_ret rfl ?_
    refine gr_sq ?_
    refine toR (fin hret rfl (.tmp rfl .nil) .one ?_)
    exact ⟨by unfold Pl.pieces; rw [if_pos (by omega)], hm.to⟩
  ·
    simp only [Bool.and_eq_true, Bool.or_eq_true, Bool.and_eq_false_iff, Bool.or_eq_false_iff, Bool.not_eq_true', Bool.not_eq_false', decide_eq_true_eq, decide_eq_false_iff_not] at hc0
    refine HW_skip rfl ?_
    refine gn_sq ?_
    refine HW_seq rfl ?_
    refine HW_text (.pure 0 (.pure 1 (.pure 2 (.pure 3 (.pure 4 (.pure 5 (.pure 6 .done))))))) (by kernel_rfl) ?_
    refine rw_p rfl rfl (y_fieldAddr rfl fo23_1) ?_
    refine rw_p rfl rfl (y_load rfl sc3 (hm.nt 0 rfl) rfl) ?_
    refine rw_p rfl rfl (y_sub rfl rfl (i64w (by omega) (by omega))) ?_
    refine rw_p rfl rfl (y_move rfl) ?_
    refine rw_p rfl rfl (y_quo rfl rfl (by omega) (tdivw (by omega) (by omega) (by omega))) ?_
    refine rw_p rfl rfl (y_add rfl rfl (i64w (by have := Int.ediv_nonneg (a := b - 1) (b := c) (by omega) (by omega); omega) (by omega))) ?_
    refine rw_p rfl rfl (y_assign rfl) ?_
    refine rw_done ?_
    refine gn_sq ?_
    refine HW_ret rfl ?_
    refine toR (fin hret rfl (.tmp rfl .nil) .one ?_)
    exact ⟨by unfold Pl.pieces; rw [if_neg (by omega)], hm.to⟩

theorem r1_piece (a b c : Int) (i : Nat) (w0 : World) (h1 : Pl.I64 ((i : Int) * c)) (h2 : Pl.I64 (a + i * c)) (h3 : Pl.I64 (b - i * c)) : C Try.prog 20 [.agg #[.int .i64 a, .int .i64 b], .int .i64 c, .int .i64 i] w0 fun v w' => v = .agg ⟨encE (Pl.piece a b c i)⟩ ∧ Ext No w0 w' := by
  refine C_of Try.func20 rfl rfl rfl fun k hret hnorm => ?_
  have hm := Mem.start w0
  refine HW_seq rfl ?_
  refine HW_text (.act 0 (.act 1 .done)) (by kernel_rfl) ?_
  refine a_box rfl rfl rfl rfl hm trivial fun m1 w hg_m1 hm hh => ?_
  refine a_alloc rfl rfl z23 hm trivial fun m2 w hg_m2 hm hh => ?_
  refine rw_done ?_
  refine gn_sq ?_
  refine HW_seq rfl ?_
  refine HW_text (.pure 0 (.pure 1 (.pure 2 (.pure 3 (.pure 4 (.pure 5 (.pure 6 (.pure 7 (.pure 8 (.pure 9 (.pure 10 (.pure 11 (.pure 12 (.pure 13 (.pure 14 (.act 15 .done)))))))))))))))) (by kernel_rfl) ?_
  refine rw_p rfl rfl (y_fieldAddr rfl fo23_0) ?_
  refine rw_p rfl rfl (y_load rfl sc3 (hm.nt 1 rfl) rfl) ?_
  refine rw_p rfl rfl (y_move rfl) ?_
  refine rw_p rfl rfl (y_move rfl) ?_
  refine rw_p rfl rfl (y_mul rfl rfl (i64w (by omega) (by omega))) ?_
  refine rw_p rfl rfl (y_add rfl rfl (i64w (by omega) (by omega))) ?_
  refine rw_p rfl rfl (y_move rfl) ?_
  refine rw_p rfl rfl (y_fieldAddr rfl fo23_1) ?_
  refine rw_p rfl rfl (y_load rfl sc3 (hm.nt 1 rfl) rfl) ?_
  refine rw_p rfl rfl (y_move rfl) ?_
  refine rw_p rfl rfl (y_move rfl) ?_
  refine rw_p rfl rfl (y_mul rfl rfl (i64w (by omega) (by omega))) ?_
  refine rw_p rfl rfl (y_sub rfl rfl (i64w (by omega) (by omega))) ?_
  refine rw_p rfl rfl (y_min rfl rfl) ?_
  refine rw_p rfl rfl (y_build (cs := [_, _]) z23 ft23 rfl rfl rfl rfl rfl) ?_
  refine a_store rfl rfl rfl rfl sz23 rfl hm 0 rfl rfl fun w hm => ?_
  refine rw_done ?_
  refine gn_sq ?_
  refine HW_ret rfl ?_
  refine toR (fin hret rfl (.cell rfl (run_loadVar_a (vs := [_, _]) ag23 (hm.get (k := 0) rfl) rfl) .nil) .one ?_)
  exact ⟨rfl, hm.to⟩

theorem eq_ext (p q : Option Addr) (c1 c2 : Nat) (xs ys : List (Int × Int)) (w0 : World) (hx : Rd w0 p (xs.flatMap encE)) (hy : Rd w0 q (ys.flatMap encE)) (h1 : xs.length ≤ 9223372036854775807) (h2 : ys.length ≤ 9223372036854775807) : C Try.prog 25 [.slice p xs.length c1, .slice q ys.length c2] w0 fun v w' => v = .bool (decide (xs = ys)) ∧ Ext No w0 w' := by
  refine C_of Try.func25 rfl rfl rfl fun k hret hnorm => ?_
  have hm := Mem.start w0
  refine HW_seq rfl ?_
  refine HW_text (.pure 0 .done) (by kernel_rfl) ?_
  refine rw_p rfl rfl (y_assign rfl) ?_
  refine rw_done ?_
  refine gn_sq ?_
  refine HW_seq rfl ?_
  refine HW_seq rfl ?_
  refine HW_text (.pure 0 (.pure 1 (.pure 2 (.pure 3 (.pure 4 .done))))) (by kernel_rfl) ?_
  refine rw_p rfl rfl (y_move rfl) ?_
  refine rw_p rfl rfl (y_len rfl rfl sl35) ?_
  refine rw_p rfl rfl (y_move rfl) ?_
  refine rw_p rfl rfl (y_len rfl rfl sl35) ?_
  refine rw_p rfl rfl (y_ne rfl rfl) ?_
  refine rw_done ?_
  refine gn_sq ?_
  refine HW_cond rfl rfl (fun hc0 => ?_) (fun hc0 => ?_)
  ·
    simp only [decide_eq_true_eq] at hc0
    refine HW_seq rfl ?_
    refine HW_text (.pure 0 .done) (by kernel_rfl) ?_
    refine rw_p rfl rfl (y_assign rfl) ?_
    refine rw_done ?_
    refine gn_sq ?_
    refine HW_ret rfl ?_
    refine gr_sq ?_
    refine toR (fin hret rfl (.tmp rfl .nil) .one ?_)
    exact ⟨by rw [decide_eq_false fun e => hc0 (by rw [e])], hm.to⟩
  ·
    simp only [decide_eq_false_iff_not] at hc0
    have hl : xs.length = ys.length := by omega
    refine HW_skip rfl ?_
    refine gn_sq ?_
    refine HW_seq rfl ?_
    refine HW_seq rfl ?_
    refine HW_text (.pure 0 (.pure 1 (.pure 2 .done))) (by kernel_rfl) ?_
    refine rw_p rfl rfl (y_move rfl) ?_
    refine rw_p rfl rfl (y_len rfl rfl sl35) ?_
    refine rw_p rfl rfl (y_move rfl) ?_
    refine rw_done ?_
    refine gn_sq ?_
    refine HW_block rfl ?_
    refine HW_loopK (ι := Nat) rfl (ks := [0, 1, 12]) (.cons rfl (.cons rfl (.cons rfl .nil))) (fun k => [(13, .int .i64 k)]) (fun k w => Mem w0 w No [] ∧ k ≤ xs.length ∧ ∀ (j : Nat), j < k → xs[j]? = ys[j]?) (fun k => xs.length - k) 0 (⟨hm, Nat.zero_le _, fun _ h => absurd h (Nat.not_lt_zero _)⟩) ⟨rfl, trivial⟩ (fun k w hM => ?_)
    obtain ⟨hm, hk, hno⟩ := hM
    refine HW_seq rfl ?_
    refine HW_text (.pure 0 .done) (by kernel_rfl) ?_
    refine rw_p rfl rfl (y_lt rfl rfl) ?_
    refine rw_done ?_
    refine gn_sq ?_
    refine HW_seq rfl ?_
    refine HW_cond rfl rfl (fun hc1 => ?_) (fun hc1 => ?_)
    ·
      simp only [decide_eq_true_eq] at hc1
      obtain ⟨x, hi⟩ : ∃ y_, xs[k]? = some y_ := ⟨_, List.getElem?_eq_getElem (by omega)⟩
      obtain ⟨qb, qo, rfl⟩ := hx.atI encE_len (by decide) hi
      obtain ⟨y, hj1⟩ : ∃ y_, ys[k]? = some y_ := ⟨_, List.getElem?_eq_getElem (by omega)⟩
      obtain ⟨b2, o2, rfl⟩ := hy.atI encE_len (by decide) hj1
      refine HW_skip rfl ?_
      refine gn_sq ?_
      refine HW_seq rfl ?_
      refine HW_block rfl ?_
      refine HW_seq rfl ?_
      refine HW_text (.pure 0 (.pure 1 .done)) (by kernel_rfl) ?_
      refine rw_p rfl rfl (y_move rfl) ?_
      refine rw_p rfl rfl (y_assign rfl) ?_
      refine rw_done ?_
      refine gn_sq ?_
      refine HW_seq rfl ?_
      refine HW_draw (.pure 0 (.pure 1 (.pure 2 (.pure 3 (.pure 4 (.pure 5 (.pure 6 (.pure 7 (.pure 8 .done))))))))) No mix (by kernel_rfl) hm fun w hw hm0 hh => ?_
      have hm := hm0
      refine rw_p rfl rfl (y_move rfl) ?_
      refine rw_p rfl rfl (y_move rfl) ?_
      refine rw_p rfl rfl (y_index rfl rfl sl35 rfl (by omega) (by omega)) ?_
      refine rw_p rfl rfl (y_elA rfl ag23 (hx.ext0 hm0.to).nd encE_len hi) ?_
      refine rw_p rfl rfl (y_move rfl) ?_
      refine rw_p rfl rfl (y_move rfl) ?_
      refine rw_p rfl rfl (y_index rfl rfl sl35 rfl (by omega) (by omega)) ?_
      refine rw_p rfl rfl (y_elA rfl ag23 (hy.ext0 hm0.to).nd encE_len hj1) ?_
      refine rw_p rfl rfl (y_ne2 rfl rfl iii23) ?_
      refine rw_done ?_
      refine gn_sq ?_
      refine HW_cond rfl rfl (fun hc2 => ?_) (fun hc2 => ?_)
      ·
        simp only [Bool.and_eq_true, Bool.or_eq_true, Bool.and_eq_false_iff, Bool.or_eq_false_iff, Bool.not_eq_true', Bool.not_eq_false', decide_eq_true_eq, decide_eq_false_iff_not] at hc2
        refine HW_seq rfl ?_
        refine HW_text (.pure 0 .done) (by kernel_rfl) ?_
        refine rw_p rfl rfl (y_assign rfl) ?_
        refine rw_done ?_
        refine gn_sq ?_
        refine HW_ret rfl ?_
        refine gr_bl (gr_sq (gr_lp (gr_bl (gr_sq ?_))))
        refine toR (fin hret rfl (.tmp rfl .nil) .one ?_)
        exact ⟨by rw [decide_eq_false fun e => by subst e; rw [hi] at hj1; cases hj1; exact hc2 ⟨rfl, rfl⟩], hm.to⟩
      ·
        simp only [Bool.and_eq_true, Bool.or_eq_true, Bool.and_eq_false_iff, Bool.or_eq_false_iff, Bool.not_eq_true', Bool.not_eq_false', decide_eq_true_eq, decide_eq_false_iff_not] at hc2
        refine HW_skip rfl ?_
        refine gn_bl ?_
        refine gn_sq ?_
        refine HW_text (.pure 0 (.pure 1 .done)) (by kernel_rfl) ?_
        refine rw_p rfl rfl (y_add rfl rfl (i64w (by omega) (by omega))) ?_
        refine rw_p rfl rfl (y_move rfl) ?_
        refine rw_done ?_
        refine next (k + 1) (by omega) ⟨hm, by omega, fun j hj => ?_⟩ ⟨nx k, rfl, rfl, rfl, trivial⟩
        rcases Nat.lt_or_ge j k with h | h
        · exact hno j h
        · obtain rfl : j = k := by omega
          rw [hi, hj1]; exact congrArg some (Prod.ext (by omega) (by omega))
    ·
      simp only [decide_eq_false_iff_not] at hc1
      have hk : k = xs.length := by omega
      subst hk
      refine HW_exit rfl ?_
      refine gx_sq (gx_lp ?_)
      refine gx_here ?_
      refine gn_sq ?_
      refine HW_seq rfl ?_
      refine HW_text (.pure 0 .done) (by kernel_rfl) ?_
      refine rw_p rfl rfl (y_assign rfl) ?_
      refine rw_done ?_
      refine gn_sq ?_
      refine HW_ret rfl ?_
      refine toR (fin hret rfl (.tmp rfl .nil) .one ?_)
      exact ⟨by rw [decide_eq_true (Pl.eq_of hl hno)], hm.to⟩

theorem ext_pieces (a b c : Int) (w0 : World) : C Try.prog 29 [.agg #[.int .i64 a, .int .i64 b], .int .i64 c] w0 fun v w' => ∃ m1 m2, v = .func (.func 31) #[] ⟨[.pointer (some ⟨m1, 0, none⟩), .pointer (some ⟨m2, 0, none⟩)]⟩ ∧ Mem w0 w' No [(m2, .row 3 [.int .i64 c]), (m1, .row 23 [.int .i64 a, .int .i64 b])] := by
  refine C_of Try.func29 rfl rfl rfl fun k hret hnorm => ?_
  have hm := Mem.start w0
  refine HW_seq rfl ?_
  refine HW_text (.act 0 (.act 1 (.pure 2 .done))) (by kernel_rfl) ?_
  refine a_box rfl rfl rfl rfl hm trivial fun m1 w hg_m1 hm hh => ?_
  refine a_box rfl rfl rfl rfl hm trivial fun m2 w hg_m2 hm hh => ?_
  refine rw_p rfl rfl (y_assign rfl) ?_
  refine rw_done ?_
  refine gn_sq ?_
  refine HW_seq rfl ?_
  refine HW_text (.pure 0 (.pure 1 .done)) (by kernel_rfl) ?_
  refine rw_p rfl rfl (y_func rfl rfl) ?_
  refine rw_p rfl rfl (y_assign rfl) ?_
  refine rw_done ?_
  refine gn_sq ?_
  refine HW_ret rfl ?_
  refine toR (fin hret rfl (.tmp rfl .nil) .one ?_)
  exact ⟨_, _, rfl, hm⟩

theorem ext_pieces1 (a b c : Int) (m1 m2 yl : Nat) (I J : Nat → World → Prop) (w0 : World) (hs : 1 ≤ c ∧ c ≤ 9223372036854775807) (h : 0 ≤ a ∧ 0 ≤ b ∧ a + b ≤ 4611686018427387903)
    (hcI : ∀ i w, I i w → w.heap[m1]? = some (Blk.row 23 [.int .i64 (Pl.rest a b c i).1, .int .i64 (Pl.rest a b c i).2]).toObj ∧ w.heap[m2]? = some (Blk.row 3 [.int .i64 c]).toObj)
    (hcJ : ∀ i w, J i w → w.heap[m1]? = some (Blk.row 23 [.int .i64 (Pl.rest a b c i).1, .int .i64 (Pl.rest a b c i).2]).toObj)
    (hy : ∀ i w, I i w → 0 < (Pl.rest a b c i).2 → Yw Try.prog yl [.agg ⟨[.int .i64 (Pl.rest a b c i).1, .int .i64 (min c (Pl.rest a b c i).2)]⟩] w fun v w' => v = .bool true ∧ J i w')
    (hst : ∀ i w, J i w → 0 < (Pl.rest a b c i).2 → I (i + 1) ((w.setRow m1 ⟨[.int .i64 ((Pl.rest a b c i).1 + min c (Pl.rest a b c i).2), .int .i64 (Pl.rest a b c i).2]⟩).setRow m1 ⟨[.int .i64 ((Pl.rest a b c i).1 + min c (Pl.rest a b c i).2), .int .i64 ((Pl.rest a b c i).2 - min c (Pl.rest a b c i).2)]⟩)) (h0 : I 0 w0) : C Try.prog 31 [.func (.yield yl) #[] #[], .pointer (some ⟨m1, 0, none⟩), .pointer (some ⟨m2, 0, none⟩)] w0 fun v w' => ∃ i, I i w' ∧ (Pl.rest a b c i).2 = 0 ∧ ∀ j, j < i → 0 < (Pl.rest a b c j).2 := by
  refine C_of Try.func31 rfl rfl rfl fun k hret hnorm => ?_
  refine HW_block rfl ?_
  refine HW_loopK (ι := Nat) rfl (ks := [0, 1, 2]) (.cons rfl (.cons rfl (.cons rfl .nil))) (fun i => []) (fun i w => I i w ∧ ∀ j, j < i → 0 < (Pl.rest a b c j).2) (fun i => (Pl.rest a b c i).2.toNat) 0 (⟨h0, fun _ h => absurd h (Nat.not_lt_zero _)⟩) trivial (fun i w hM => ?_)
  obtain ⟨hI, hlt⟩ := hM
  obtain ⟨hb, hz⟩ := hcI _ _ hI
  have h1 := Pl.rest_sum a b c i
  have h2 := Pl.rest_le (o := a) (i := i) hs.1 h.2.1
  refine HW_seq rfl ?_
  refine HW_seq rfl ?_
  refine HW_text (.pure 0 (.pure 1 (.pure 2 .done))) (by kernel_rfl) ?_
  refine rw_p rfl rfl (y_fieldAddr rfl fo23_1) ?_
  refine rw_p rfl rfl (y_load rfl sc3 (nowT hb) rfl) ?_
  refine rw_p rfl rfl (y_gt rfl rfl) ?_
  refine rw_done ?_
  refine gn_sq ?_
  refine HW_cond rfl rfl (fun hc0 => ?_) (fun hc0 => ?_)
  ·
    simp only [decide_eq_true_eq] at hc0
    have hn := Pl.rest_succ hs.1 hc0
    refine HW_skip rfl ?_
    refine gn_sq ?_
    refine HW_block rfl ?_
    refine HW_seq rfl ?_
    refine HW_text (.pure 0 (.pure 1 (.pure 2 (.pure 3 (.pure 4 .done))))) (by kernel_rfl) ?_
    refine rw_p rfl rfl (y_load rfl sc3 (nowT hz) rfl) ?_
    refine rw_p rfl rfl (y_fieldAddr rfl fo23_1) ?_
    refine rw_p rfl rfl (y_load rfl sc3 (nowT hb) rfl) ?_
    refine rw_p rfl rfl (y_min rfl rfl) ?_
    refine rw_p rfl rfl (y_assign rfl) ?_
    refine rw_done ?_
    refine gn_sq ?_
    refine HW_seq rfl ?_
    refine HW_seq rfl ?_
    refine HW_text (.pure 0 (.pure 1 (.pure 2 (.pure 3 (.pure 4 (.act 5 (.pure 6 .done))))))) (by kernel_rfl) ?_
    refine rw_p rfl rfl (y_move rfl) ?_
    refine rw_p rfl rfl (y_fieldAddr rfl fo23_0) ?_
    refine rw_p rfl rfl (y_load rfl sc3 (nowT hb) rfl) ?_
    refine rw_p rfl rfl (y_move rfl) ?_
    refine rw_p rfl rfl (y_build (cs := [_, _]) z23 ft23 rfl rfl rfl rfl rfl) ?_
    refine a_yield rfl rfl rfl rfl (hy i _ hI hc0) fun v w hR => ?_
    obtain ⟨rfl, hJ⟩ := hR
    refine ⟨trivial, ?_⟩
    have hb := hcJ _ _ hJ
    refine rw_p rfl rfl (y_not rfl) ?_
    refine rw_done ?_
    refine gn_sq ?_
    refine HW_condF rfl rfl rfl ?_
    refine HW_skip rfl ?_
    refine gn_sq ?_
    refine HW_seq rfl ?_
    refine HW_text (.pure 0 (.pure 1 (.pure 2 (.pure 3 (.pure 4 (.act 5 .done)))))) (by kernel_rfl) ?_
    refine rw_p rfl rfl (y_fieldAddr rfl fo23_0) ?_
    refine rw_p rfl rfl (y_load rfl sc3 (nowT hb) rfl) ?_
    refine rw_p rfl rfl (y_move rfl) ?_
    refine rw_p rfl rfl (y_add rfl rfl (i64w (by omega) (by omega))) ?_
    refine rw_p rfl rfl (y_fieldAddr rfl fo23_0) ?_
    refine a_storeW rfl rfl rfl rfl sz3 rfl hb rfl ?_
    replace hb := row_set (l' := [.int .i64 ((Pl.rest a b c i).1 + min c (Pl.rest a b c i).2), .int .i64 (Pl.rest a b c i).2]) hb
    refine rw_done ?_
    refine gn_sq ?_
    refine HW_text (.pure 0 (.pure 1 (.pure 2 (.pure 3 (.pure 4 (.act 5 .done)))))) (by kernel_rfl) ?_
    refine rw_p rfl rfl (y_fieldAddr rfl fo23_1) ?_
    refine rw_p rfl rfl (y_load rfl sc3 (nowT hb) rfl) ?_
    refine rw_p rfl rfl (y_move rfl) ?_
    refine rw_p rfl rfl (y_sub rfl rfl (i64w (by omega) (by omega))) ?_
    refine rw_p rfl rfl (y_fieldAddr rfl fo23_1) ?_
    refine a_storeW rfl rfl rfl rfl sz3 rfl hb rfl ?_
    refine rw_done ?_
    refine gn_bl ?_
    refine next (i + 1) ?_ ⟨hst i _ hJ hc0, fun j hj => ?_⟩ ⟨rfl, rfl, rfl, trivial⟩
    · rw [hn]; simp only; omega
    · rcases Nat.lt_or_ge j i with h | h
      · exact hlt j h
      · obtain rfl : j = i := by omega
        exact hc0
  ·
    simp only [Bool.and_eq_true, Bool.or_eq_true, Bool.and_eq_false_iff, Bool.or_eq_false_iff, Bool.not_eq_true', Bool.not_eq_false', decide_eq_true_eq, decide_eq_false_iff_not] at hc0
    refine HW_exit rfl ?_
    refine gx_sq (gx_lp ?_)
    refine gx_here ?_
    refine toN (fin hnorm rfl .nil .nil ?_)
    exact ⟨i, hI, by omega, hlt⟩

theorem ext_split (a b c : Int) (w0 : World) (h : 0 ≤ a ∧ 0 ≤ b ∧ a + b ≤ 4611686018427387903) (hc : Pl.I64 c) : C Try.prog 18 [.agg #[.int .i64 a, .int .i64 b], .int .i64 c] w0 fun v w' => ∃ p n cap B, v = .slice p n cap ∧ (n : Int) = Pl.pieces b c ∧ Acc 23 2 p n cap ((List.range n).flatMap fun j => encE (Pl.piece a b c j)) B ∧ Mem w0 w' No B := by
  refine C_ofM Try.func18 rfl rfl rfl fun k hret hnorm => ?_
  have hm := Mem.start w0
  refine HW_seq rfl ?_
  refine HW_text (.act 0 (.pure 1 .done)) (by kernel_rfl) ?_
  refine a_box rfl rfl rfl rfl hm trivial fun m1 w hg_m1 hm hh => ?_
  refine rw_p rfl rfl (y_assign rfl) ?_
  refine rw_done ?_
  refine gn_sq ?_
  refine HW_seq rfl ?_
  refine HW_seq rfl ?_
  refine HW_text (.pure 0 (.pure 1 (.pure 2 (.pure 3 (.pure 4 (.pure 5 (.pure 6 (.pure 7 (.pure 8 (.pure 9 (.pure 10 (.pure 11 (.pure 12 (.pure 13 (.pure 14 .done))))))))))))))) (by kernel_rfl) ?_
  refine rw_p rfl rfl (y_move rfl) ?_
  refine rw_p rfl rfl (y_lt rfl rfl) ?_
  refine rw_p rfl rfl (y_move rfl) ?_
  refine rw_g rfl rfl rfl (fun hc => (y_fieldAddr rfl fo23_1)) ?_
  refine rw_g rfl rfl rfl (fun hc => (y_load (gx hc rfl) sc3 (hm.nt 0 rfl) rfl)) ?_
  refine rw_g rfl rfl rfl (fun hc => (y_eq (gx hc rfl) rfl)) ?_
  refine rw_p rfl rfl (y_or rfl rfl rfl) ?_
  refine rw_p rfl rfl (y_move rfl) ?_
  refine rw_g rfl rfl rfl (fun hc => (y_fieldAddr rfl fo23_1)) ?_
  refine rw_g rfl rfl rfl (fun hc => (y_load (gx hc rfl) sc3 (hm.nt 0 rfl) rfl)) ?_
  refine rw_g rfl rfl rfl (fun hc => (y_sub (gx hc rfl) rfl (i64w (by omega) (by omega)))) ?_
  refine rw_g rfl rfl rfl (fun hc => (y_move rfl)) ?_
  refine rw_g rfl rfl rfl (fun hc => (y_quo (gx hc rfl) (gx hc rfl) (by simp at hc; omega) (tdivw (by simp at hc; omega) (by omega) (by simp at hc; omega)))) ?_
  refine rw_g rfl rfl rfl (fun hc => (y_ge (gx hc rfl) rfl)) ?_
  refine rw_p rfl rfl (y_or rfl rfl rfl) ?_
  refine rw_done ?_
  refine gn_sq ?_
  refine HW_cond rfl rfl (fun hc0 => ?_) (fun hc0 => ?_)
  ·
    simp only [Bool.and_eq_true, Bool.or_eq_true, Bool.and_eq_false_iff, Bool.or_eq_false_iff, Bool.not_eq_true', Bool.not_eq_false', decide_eq_true_eq, decide_eq_false_iff_not] at hc0
    refine HW_seq rfl ?_
    refine HW_text (.pure 0 .done) (by kernel_rfl) ?_
    refine rw_p rfl rfl (y_assign rfl) ?_
    refine rw_done ?_
    refine gn_sq ?_
    refine HW_ret rfl ?_
    refine gr_sq ?_
    refine toR (fin0 hret rfl (.tmp rfl .nil) .one ?_)
    exact ⟨none, 0, 0, [], rfl, by unfold Pl.pieces; rw [if_pos (by omega)]; rfl, .nil _ _, hm.drop (by simp)⟩
  ·
    simp only [Bool.and_eq_true, Bool.or_eq_true, Bool.and_eq_false_iff, Bool.or_eq_false_iff, Bool.not_eq_true', Bool.not_eq_false', decide_eq_true_eq, decide_eq_false_iff_not] at hc0
    refine HW_skip rfl ?_
    refine gn_sq ?_
    refine HW_seq rfl ?_
    refine HW_text (.act 0 .done) (by kernel_rfl) ?_
    refine a_alloc rfl rfl z35 hm trivial fun m2 w hg_m2 hm hh => ?_
    refine rw_done ?_
    refine gn_sq ?_
    refine HW_seq rfl ?_
    refine HW_seq rfl ?_
    refine HW_text (.pure 0 (.pure 1 (.act 2 .done))) (by kernel_rfl) ?_
    refine rw_p rfl rfl (y_loadA (s := 2) (vs := [_, _]) rfl ag23 (hm.nt 1 rfl) rfl) ?_
    refine rw_p rfl rfl (y_move rfl) ?_
    refine a_call rfl rfl rfl go29 (ext_pieces _ _ _ _) fun v w hR => ?_
    obtain ⟨q1, q2, rfl, hmc⟩ := hR
    refine ⟨trivial, ?_⟩
    replace hm := hm.call (A := []) hmc fun _ h => h.elim
    refine rw_done ?_
    refine gn_sq ?_
    refine HW_block rfl ?_
    refine HW_range rfl rfl go31 hm fun a_ fn r0 l w LB hLB hfr hl hs hm => ?_
    refine C.mono (ext_pieces1 a b c q1 q2 l (fun i w => ∃ p cap B, Mem w0 w No ((l, LB .ready none) :: (r0, dblk (some [])) :: (q2, .row 3 [.int .i64 c]) :: (q1, .row 23 [.int .i64 (Pl.rest a b c i).1, .int .i64 (Pl.rest a b c i).2]) :: (m2, .row 35 [.slice p i cap]) :: (m1, .row 23 [.int .i64 a, .int .i64 b]) :: B) ∧ Acc 23 2 p i cap ((List.range i).flatMap fun j => encE (Pl.piece a b c j)) B)
      (fun i w => ∃ p cap B, Mem w0 w No ((l, LB .ready none) :: (r0, dblk (some [])) :: (q2, .row 3 [.int .i64 c]) :: (q1, .row 23 [.int .i64 (Pl.rest a b c i).1, .int .i64 (Pl.rest a b c i).2]) :: (m2, .row 35 [.slice p (i + 1) cap]) :: (m1, .row 23 [.int .i64 a, .int .i64 b]) :: B) ∧ Acc 23 2 p (i + 1) cap ((List.range (i + 1)).flatMap fun j => encE (Pl.piece a b c j)) B)
      _ (by omega) h ?_ ?_ (fun i w hI hlt => ?_) ?_ ⟨none, 0, [], by rw [Pl.rest_zero h.2.1]; exact hm, .nil _ _⟩) (fun v w hR => ?_)
    · rintro i w ⟨p, cap, B, hm, -⟩; exact ⟨hm.get (k := 3) rfl, hm.get (k := 2) rfl⟩
    · rintro i w ⟨p, cap, B, hm, -⟩; exact hm.get (k := 3) rfl
    rotate_left
    · rintro i w ⟨p, cap, B, hm, ha⟩ hlt
      have h1 := setRow_mem (l' := [.int .i64 ((Pl.rest a b c i).1 + min c (Pl.rest a b c i).2), .int .i64 (Pl.rest a b c i).2]) hm (j := 3) rfl
      have h2 := setRow_mem (l' := [.int .i64 ((Pl.rest a b c i).1 + min c (Pl.rest a b c i).2), .int .i64 ((Pl.rest a b c i).2 - min c (Pl.rest a b c i).2)]) h1 (j := 3) rfl
      exact ⟨p, cap, B, by rw [Pl.rest_succ (by omega) hlt]; exact h2, ha⟩
    rotate_left
    ·
      subst hLB
      obtain ⟨p, cap, B, hm, ha⟩ := hI
      have hix := Pl.rest_idx (o := a) (by omega) hlt
      have hpr := Pl.piece_rest hlt
      refine Yw.of hfr (hm.get (k := 0) rfl) rfl rfl ?_
      refine HW_text (.act 0 (.act 1 .done)) (by kernel_rfl) ?_
      refine a_alloc rfl rfl z23 hm trivial fun m3 w hg_m3 hm hh => ?_
      refine a_store rfl rfl rfl rfl sz23 rfl hm 0 rfl rfl fun w hm => ?_
      refine rw_done ?_
      refine g_begin hm 1 rfl fun w hm => ?_
      refine HW_block rfl ?_
      refine HW_text (.pure 0 (.pure 1 (.act 2 (.act 3 (.act 4 .done))))) (by kernel_rfl) ?_
      refine rw_p rfl rfl (y_load rfl sc35 (hm.nt 5 rfl) rfl) ?_
      refine rw_p rfl rfl (y_loadA (s := 2) (vs := [_, _]) rfl ag23 (hm.nt 0 rfl) rfl) ?_
      refine a_buildSlice (l := [_, _]) rfl rfl sl35 z23 rfl rfl rfl rfl rfl rfl rfl hm trivial fun m4 w hg_m4 hm hh => ?_
      refine a_append (L := [_, _, _, _, _, _, _, _]) rfl rfl rfl rfl rfl rfl sl35 sl35 z23 rfl rfl (Rd.row0 (hm.get (k := 0) rfl)) rfl ha hm (by omega) (by omega) fun p cap B w ha hm => ?_
      refine a_store rfl rfl rfl rfl sz35 rfl hm 6 rfl rfl fun w hm => ?_
      refine rw_done ?_
      refine gn_bl ?_
      refine g_end hm 2 rfl fun w hm => ?_
      refine ⟨rfl, p, cap, B, hm.tail.tail, ?_⟩
      rw [List.range_succ, List.flatMap_append]; simp only [List.flatMap_cons, List.flatMap_nil, List.append_nil]
      rw [hpr]; exact ha
    ·
      subst hLB
      obtain ⟨i, ⟨p, cap, B, hm, ha⟩, hz, hlt⟩ := hR
      refine ⟨.ready, none, nofun, hm.get (k := 0) rfl, fun w4 hw4 => ?_⟩
      replace hm := g_over hm hw4
      refine gn_bl ?_
      refine gn_sq ?_
      refine HW_seq rfl ?_
      refine HW_text (.pure 0 (.pure 1 .done)) (by kernel_rfl) ?_
      refine rw_p rfl rfl (y_load rfl sc35 (hm.nt 3 rfl) rfl) ?_
      refine rw_p rfl rfl (y_assign rfl) ?_
      refine rw_done ?_
      refine gn_sq ?_
      refine HW_ret rfl ?_
      refine toR (fin1 hret rfl hm 0 rfl .one fun w hm => ⟨(.tmp rfl .nil), ?_⟩)
      exact ⟨p, i, cap, B, rfl, Pl.pieces_of (by omega) (by omega) (by omega) hz hlt, ha, hm.drop (List.sublist_append_right [_, _, _, _, _] B)⟩

end Go.Proofs.Ytkblomdnccjdkaa
