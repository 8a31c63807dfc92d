/- Contracts of functions of the program: what each returns. Conditions: the hypotheses of each theorem. -/
import Derived.Test.YtkllojjpaelmhaaChecked
import Derived.Test.YtkllojjpaelmhaaEnA
set_option linter.unusedVariables false
set_option linter.unusedSimpArgs false
namespace Go.Proofs.Ytkllojjpaelmhaa
open Go Go.Cx

theorem fo23_0 : fldO Try.prog 23 0 = some 0 := by kernel_rfl
theorem fo23_1 : fldO Try.prog 23 1 = some 1 := by kernel_rfl
theorem sc3 : scal Try.prog 3 = true := by kernel_rfl
theorem go52 : isGo Try.prog 52 = true := by kernel_rfl
theorem mix : Try.prog.follows .mixedOrders = true := by kernel_rfl
theorem ag23 : aggS Try.prog 23 = some 2 := by kernel_rfl
theorem ft23 : fldT Try.prog 23 = some [(0, 1), (1, 1)] := by kernel_rfl
theorem sz23 : szO Try.prog 23 = some 2 := by kernel_rfl
theorem z23 : zer Try.prog 23 = some [.int .i64 0, .int .i64 0] := by kernel_rfl
theorem go30 : isGo Try.prog 30 = true := by kernel_rfl
theorem go69 : isGo Try.prog 69 = true := by kernel_rfl
theorem sz3 : szO Try.prog 3 = some 1 := by kernel_rfl
theorem go61 : isGo Try.prog 61 = true := by kernel_rfl
theorem go70 : isGo Try.prog 70 = true := by kernel_rfl
theorem sc61 : scal Try.prog 61 = true := by kernel_rfl
theorem sl61 : slcO Try.prog 61 = some (23, 2, 16) := by kernel_rfl
theorem sz61 : szO Try.prog 61 = some 1 := by kernel_rfl
theorem z61 : zer Try.prog 61 = some [.slice none 0 0] := by kernel_rfl

theorem ext_valid (a b : Int) (w0 : World) (ha : Pl.I64 a) (hb : Pl.I64 b) : C Try.prog 29 [.agg #[.int .i64 a, .int .i64 b]] w0 fun v w' => v = .bool (Pl.valid a b) ∧ Ext No w0 w' := by
  refine C_of Try.func29 rfl rfl rfl fun κ hret hnorm => ?_
  have hm := Mem.start w0
  refine HW_seq rfl ?_
  refine HW_text (.act 0 (.pure 1 .done)) (by kernel_rfl) ?_
  refine a_box rfl rfl rfl rfl hm trivial fun m1 w hg_m1 hm hh => ?_
  refine rw_p rfl rfl (y_assign rfl) ?_
  refine rw_done ?_
  refine gn_sq ?_
  refine HW_seq rfl ?_
  refine HW_text (.pure 0 (.pure 1 (.pure 2 (.pure 3 (.pure 4 (.pure 5 (.pure 6 (.pure 7 (.pure 8 (.pure 9 (.pure 10 (.pure 11 (.pure 12 (.pure 13 (.pure 14 (.pure 15 (.pure 16 (.pure 17 (.pure 18 (.pure 19 .done)))))))))))))))))))) (by kernel_rfl) ?_
  refine rw_p rfl rfl (y_fieldAddr rfl fo23_0) ?_
  refine rw_p rfl rfl (y_load rfl sc3 (hm.nt 0 rfl) rfl) ?_
  refine rw_p rfl rfl (y_fieldAddr rfl fo23_1) ?_
  refine rw_p rfl rfl (y_load rfl sc3 (hm.nt 0 rfl) rfl) ?_
  refine rw_p rfl rfl (y_min rfl rfl) ?_
  refine rw_p rfl rfl (y_ge rfl rfl) ?_
  refine rw_p rfl rfl (y_move rfl) ?_
  refine rw_g rfl rfl rfl (fun hc => (y_fieldAddr rfl fo23_0)) ?_
  refine rw_g rfl rfl rfl (fun hc => (y_load (gx hc rfl) sc3 (hm.nt 0 rfl) rfl)) ?_
  refine rw_g rfl rfl rfl (fun hc => (y_le (gx hc rfl) rfl)) ?_
  refine rw_p rfl rfl (y_and rfl rfl rfl) ?_
  refine rw_p rfl rfl (y_move rfl) ?_
  refine rw_g rfl rfl rfl (fun hc => (y_fieldAddr rfl fo23_1)) ?_
  refine rw_g rfl rfl rfl (fun hc => (y_load (gx hc rfl) sc3 (hm.nt 0 rfl) rfl)) ?_
  refine rw_g rfl rfl rfl (fun hc => (y_fieldAddr rfl fo23_0)) ?_
  refine rw_g rfl rfl rfl (fun hc => (y_load (gx hc rfl) sc3 (hm.nt 0 rfl) rfl)) ?_
  refine rw_g rfl rfl rfl (fun hc => (y_sub rfl (gx hc rfl) (i64w (by simp at hc; omega) (by simp at hc; omega)))) ?_
  refine rw_g rfl rfl rfl (fun hc => (y_le (gx hc rfl) (gx hc rfl))) ?_
  refine rw_p rfl rfl (y_and rfl rfl rfl) ?_
  refine rw_p rfl rfl (y_assign rfl) ?_
  refine rw_done ?_
  refine gn_sq ?_
  refine HW_ret rfl ?_
  refine toR (fin hret rfl (.tmp rfl .nil) .one ?_)
  exact ⟨congrArg Value.bool (by rw [Bool.eq_iff_iff]; simp [Pl.valid]; omega), hm.to⟩

theorem ext_end (a b : Int) (w0 : World) (h : Pl.I64 (a + b)) : C Try.prog 30 [.agg #[.int .i64 a, .int .i64 b]] w0 fun v w' => v = .int .i64 (a + b) ∧ Ext No w0 w' := by
  refine C_of Try.func30 rfl rfl rfl fun κ hret hnorm => ?_
  have hm := Mem.start w0
  refine HW_seq rfl ?_
  refine HW_text (.act 0 (.pure 1 .done)) (by kernel_rfl) ?_
  refine a_box rfl rfl rfl rfl hm trivial fun m1 w hg_m1 hm hh => ?_
  refine rw_p rfl rfl (y_assign rfl) ?_
  refine rw_done ?_
  refine gn_sq ?_
  refine HW_seq rfl ?_
  refine HW_text (.pure 0 (.pure 1 (.pure 2 (.pure 3 (.pure 4 (.pure 5 .done)))))) (by kernel_rfl) ?_
  refine rw_p rfl rfl (y_fieldAddr rfl fo23_0) ?_
  refine rw_p rfl rfl (y_load rfl sc3 (hm.nt 0 rfl) rfl) ?_
  refine rw_p rfl rfl (y_fieldAddr rfl fo23_1) ?_
  refine rw_p rfl rfl (y_load rfl sc3 (hm.nt 0 rfl) rfl) ?_
  refine rw_p rfl rfl (y_add rfl rfl (i64w (by omega) (by omega))) ?_
  refine rw_p rfl rfl (y_assign rfl) ?_
  refine rw_done ?_
  refine gn_sq ?_
  refine HW_ret rfl ?_
  refine toR (fin hret rfl (.tmp rfl .nil) .one ?_)
  exact ⟨rfl, hm.to⟩

theorem r1_max (w0 : World) : C Try.prog 52 [] w0 fun v w' => v = .int .i64 4611686018427387903 ∧ Ext No w0 w' := by
  refine C_of Try.func52 rfl rfl rfl fun κ hret hnorm => ?_
  have hm := Mem.start w0
  refine HW_seq rfl ?_
  refine HW_text (.pure 0 .done) (by kernel_rfl) ?_
  refine rw_p rfl rfl (y_assign rfl) ?_
  refine rw_done ?_
  refine gn_sq ?_
  refine HW_seq rfl ?_
  refine HW_text (.pure 0 .done) (by kernel_rfl) ?_
  refine rw_p rfl rfl (y_assign rfl) ?_
  refine rw_done ?_
  refine gn_sq ?_
  refine HW_ret rfl ?_
  refine toR (fin hret rfl (.tmp rfl .nil) .one ?_)
  exact ⟨rfl, hm.to⟩

theorem r1_valid (a b : Int) (w0 : World) (ha : Pl.I64 a) (hb : Pl.I64 b) : C Try.prog 31 [.agg #[.int .i64 a, .int .i64 b]] w0 fun v w' => v = .bool (Pl.valid a b) ∧ Ext No w0 w' := by
  refine C_of Try.func31 rfl rfl rfl fun κ hret hnorm => ?_
  have hm := Mem.start w0
  refine HW_seq rfl ?_
  refine HW_text (.act 0 (.pure 1 .done)) (by kernel_rfl) ?_
  refine a_box rfl rfl rfl rfl hm trivial fun m1 w hg_m1 hm hh => ?_
  refine rw_p rfl rfl (y_assign rfl) ?_
  refine rw_done ?_
  refine gn_sq ?_
  refine HW_seq rfl ?_
  refine HW_draw (.pure 0 (.pure 1 (.pure 2 (.pure 3 (.pure 4 (.pure 5 (.pure 6 (.pure 7 (.pure 8 (.pure 9 (.pure 10 (.act 11 (.pure 12 (.pure 13 (.pure 14 (.pure 15 (.pure 16 (.pure 18 (.pure 19 (.act 17 (.pure 20 (.pure 21 (.pure 22 (.pure 23 .done)))))))))))))))))))))))) No mix (by kernel_rfl) hm fun w hw hm0 hh => ?_
  have hm := hm0
  refine rw_p rfl rfl (y_fieldAddr rfl fo23_0) ?_
  refine rw_p rfl rfl (y_load rfl sc3 (hm0.nd 0 rfl id) rfl) ?_
  refine rw_p rfl rfl (y_ge rfl rfl) ?_
  refine rw_p rfl rfl (y_move rfl) ?_
  refine rw_g rfl rfl rfl (fun hc => (y_fieldAddr rfl fo23_1)) ?_
  refine rw_g rfl rfl rfl (fun hc => (y_load (gx hc rfl) sc3 (hm0.nd 0 rfl id) rfl)) ?_
  refine rw_g rfl rfl rfl (fun hc => (y_ge (gx hc rfl) rfl)) ?_
  refine rw_p rfl rfl (y_and rfl rfl rfl) ?_
  refine rw_p rfl rfl (y_move rfl) ?_
  refine rw_g rfl rfl rfl (fun hc => (y_fieldAddr rfl fo23_0)) ?_
  refine rw_g rfl rfl rfl (fun hc => (y_load (gx hc rfl) sc3 (hm0.nd 0 rfl id) rfl)) ?_
  refine a_callG rfl rfl rfl (fun hc => rfl) go52 (fun hc => (r1_max _)) hh fun w hE hh => ?_
  replace hm := hm.ext hE
  refine rw_g rfl rfl rfl (fun hc => (y_le (gx hc rfl) (gx hc rfl))) ?_
  refine rw_p rfl rfl (y_and rfl rfl rfl) ?_
  refine rw_p rfl rfl (y_move rfl) ?_
  refine rw_g rfl rfl rfl (fun hc => (y_fieldAddr rfl fo23_1)) ?_
  refine rw_g rfl rfl rfl (fun hc => (y_load (gx hc rfl) sc3 (hm0.nd 0 rfl id) rfl)) ?_
  refine rw_g rfl rfl rfl (fun hc => (y_fieldAddr rfl fo23_0)) ?_
  refine rw_g rfl rfl rfl (fun hc => (y_load (gx hc rfl) sc3 (hm0.nd 0 rfl id) rfl)) ?_
  refine a_callG rfl rfl rfl (fun hc => rfl) go52 (fun hc => (r1_max _)) hh fun w hE hh => ?_
  replace hm := hm.ext hE
  refine rw_g rfl rfl rfl (fun hc => (y_sub (gx hc rfl) (gx hc rfl) (i64w (by simp at hc; omega) (by simp at hc; omega)))) ?_
  refine rw_g rfl rfl rfl (fun hc => (y_le (gx hc rfl) (gx hc rfl))) ?_
  refine rw_p rfl rfl (y_and rfl rfl rfl) ?_
  refine rw_p rfl rfl (y_assign rfl) ?_
  refine rw_done ?_
  refine gn_sq ?_
  refine HW_ret rfl ?_
  refine toR (fin hret rfl (.tmp rfl .nil) .one ?_)
  exact ⟨congrArg Value.bool (by rw [Bool.eq_iff_iff]; simp [Pl.valid]; omega), hm.to⟩

theorem ext_between (a b c : Int) (w0 : World) (h : Pl.I64 (b - a)) : C Try.prog 69 [.int .i64 a, .int .i64 b, .int .i64 c] w0 fun v w' => v = .tuple ⟨[.agg ⟨exV (Pl.btw a b c)⟩, .bool (Pl.btw a b c).isSome]⟩ ∧ Ext No w0 w' := by
  refine C_of Try.func69 rfl rfl rfl fun κ hret hnorm => ?_
  have hm := Mem.start w0
  refine HW_seq rfl ?_
  refine HW_text (.act 0 (.pure 1 .done)) (by kernel_rfl) ?_
  refine a_alloc rfl rfl z23 hm trivial fun m1 w hg_m1 hm hh => ?_
  refine rw_p rfl rfl (y_assign rfl) ?_
  refine rw_done ?_
  refine gn_sq ?_
  refine HW_seq rfl ?_
  refine HW_seq rfl ?_
  refine HW_text (.pure 0 (.pure 1 (.pure 2 (.pure 3 (.pure 4 .done))))) (by kernel_rfl) ?_
  refine rw_p rfl rfl (y_move rfl) ?_
  refine rw_p rfl rfl (y_move rfl) ?_
  refine rw_p rfl rfl (y_sub rfl rfl (i64w (by omega) (by omega))) ?_
  refine rw_p rfl rfl (y_move rfl) ?_
  refine rw_p rfl rfl (y_lt rfl rfl) ?_
  refine rw_done ?_
  refine gn_sq ?_
  refine HW_cond rfl rfl (fun hc0 => ?_) (fun hc0 => ?_)
  ·
    simp only [Bool.and_eq_true, Bool.or_eq_true, Bool.and_eq_false_iff, Bool.or_eq_false_iff, Bool.not_eq_true', Bool.not_eq_false', decide_eq_true_eq, decide_eq_false_iff_not] at hc0
    refine HW_seq rfl ?_
    refine HW_text (.pure 0 (.act 1 (.pure 2 .done))) (by kernel_rfl) ?_
    refine rw_p rfl rfl (y_build (cs := [_, _]) z23 ft23 rfl rfl rfl rfl rfl) ?_
    refine a_store rfl rfl rfl rfl sz23 rfl hm 0 rfl rfl fun w hm => ?_
    refine rw_p rfl rfl (y_assign rfl) ?_
    refine rw_done ?_
    refine gn_sq ?_
    refine HW_ret rfl ?_
    refine gr_sq ?_
    refine toR (fin hret rfl (.cell rfl (run_loadVar_a (vs := [_, _]) ag23 (hm.get (k := 0) rfl) rfl) (.tmp rfl .nil)) .more ?_)
    exact ⟨by simp [tup, Pl.btw, hc0, exV], hm.to⟩
  ·
    simp only [Bool.and_eq_true, Bool.or_eq_true, Bool.and_eq_false_iff, Bool.or_eq_false_iff, Bool.not_eq_true', Bool.not_eq_false', decide_eq_true_eq, decide_eq_false_iff_not] at hc0
    refine HW_skip rfl ?_
    refine gn_sq ?_
    refine HW_seq rfl ?_
    refine HW_text (.pure 0 (.pure 1 (.pure 2 (.pure 3 (.pure 4 (.act 5 (.pure 6 .done))))))) (by kernel_rfl) ?_
    refine rw_p rfl rfl (y_move rfl) ?_
    refine rw_p rfl rfl (y_move rfl) ?_
    refine rw_p rfl rfl (y_move rfl) ?_
    refine rw_p rfl rfl (y_sub rfl rfl (i64w (by omega) (by omega))) ?_
    refine rw_p rfl rfl (y_build (cs := [_, _]) z23 ft23 rfl rfl rfl rfl rfl) ?_
    refine a_store rfl rfl rfl rfl sz23 rfl hm 0 rfl rfl fun w hm => ?_
    refine rw_p rfl rfl (y_assign rfl) ?_
    refine rw_done ?_
    refine gn_sq ?_
    refine HW_ret rfl ?_
    refine toR (fin hret rfl (.cell rfl (run_loadVar_a (vs := [_, _]) ag23 (hm.get (k := 0) rfl) rfl) (.tmp rfl .nil)) .more ?_)
    exact ⟨by simp [tup, Pl.btw, exV, hc0], hm.to⟩

theorem ext_overlap (a b c e : Int) (w0 : World) (h1 : 0 ≤ a ∧ 0 ≤ b ∧ a + b ≤ 9223372036854775807) (h2 : 0 ≤ c ∧ 0 ≤ e ∧ c + e ≤ 9223372036854775807) : C Try.prog 58 [.agg #[.int .i64 a, .int .i64 b], .agg #[.int .i64 c, .int .i64 e]] w0 fun v w' => v = .tuple ⟨[.agg ⟨exV (Pl.overlap a b c e)⟩, .bool (Pl.overlap a b c e).isSome]⟩ ∧ Ext No w0 w' := by
  refine C_of Try.func58 rfl rfl rfl fun κ hret hnorm => ?_
  have hm := Mem.start w0
  refine HW_seq rfl ?_
  refine HW_text (.act 0 (.act 1 (.act 2 (.pure 3 .done)))) (by kernel_rfl) ?_
  refine a_box rfl rfl rfl rfl hm trivial fun m1 w hg_m1 hm hh => ?_
  refine a_box rfl rfl rfl rfl hm trivial fun m2 w hg_m2 hm hh => ?_
  refine a_alloc rfl rfl z23 hm trivial fun m3 w hg_m3 hm hh => ?_
  refine rw_p rfl rfl (y_assign rfl) ?_
  refine rw_done ?_
  refine gn_sq ?_
  refine HW_seq rfl ?_
  refine HW_draw (.pure 0 (.pure 1 (.pure 2 (.pure 3 (.pure 4 (.pure 5 (.pure 7 (.act 6 (.act 8 (.pure 9 (.act 10 (.pure 11 (.pure 12 (.cut (.act 13 (.pure 14 .done)))))))))))))))) No mix (by kernel_rfl) hm fun w hw hm0 hh => ?_
  have hm := hm0
  refine rw_p rfl rfl (y_fieldAddr rfl fo23_0) ?_
  refine rw_p rfl rfl (y_load rfl sc3 (hm0.nd 2 rfl id) rfl) ?_
  refine rw_p rfl rfl (y_fieldAddr rfl fo23_0) ?_
  refine rw_p rfl rfl (y_load rfl sc3 (hm0.nd 1 rfl id) rfl) ?_
  refine rw_p rfl rfl (y_max rfl rfl) ?_
  refine rw_p rfl rfl (y_loadA (s := 2) (vs := [_, _]) rfl ag23 (hm0.nd 2 rfl id) rfl) ?_
  refine rw_p rfl rfl (y_loadA (s := 2) (vs := [_, _]) rfl ag23 (hm0.nd 1 rfl id) rfl) ?_
  refine a_call rfl rfl rfl go30 (ext_end _ _ _ (by omega)) fun v w hR => ?_
  obtain ⟨rfl, hE⟩ := hR
  refine ⟨hh.ext hE, ?_⟩
  replace hm := hm.ext hE
  replace hh := hh.ext hE
  refine a_call rfl rfl rfl go30 (ext_end _ _ _ (by omega)) fun v w hR => ?_
  obtain ⟨rfl, hE⟩ := hR
  refine ⟨hh.ext hE, ?_⟩
  replace hm := hm.ext hE
  replace hh := hh.ext hE
  refine rw_p rfl rfl (y_min rfl rfl) ?_
  refine a_call rfl rfl rfl go69 (ext_between _ _ _ _ (by omega)) fun v w hR => ?_
  obtain ⟨rfl, hE⟩ := hR
  refine ⟨hh.ext hE, ?_⟩
  replace hm := hm.ext hE
  replace hh := hh.ext hE
  refine rw_p rfl rfl (y_extract rfl rfl) ?_
  refine rw_p rfl rfl (y_extract rfl rfl) ?_
  refine a_cut ?_
  refine a_store rfl rfl rfl rfl sz23 rfl hm 0 rfl rfl fun w hm => ?_
  refine rw_p rfl rfl (y_assign rfl) ?_
  refine rw_done ?_
  refine gn_sq ?_
  refine HW_ret rfl ?_
  refine toR (fin hret rfl (.cell rfl (run_loadVar_a (vs := [_, _]) ag23 (hm.get (k := 0) rfl) rfl) (.tmp rfl .nil)) .more ?_)
  exact ⟨rfl, hm.to⟩

theorem ext_pieces (a b c : Int) (w0 : World) : C Try.prog 61 [.agg #[.int .i64 a, .int .i64 b], .int .i64 c] w0 fun v w' => ∃ m1 m2, v = .func (.func 70) #[] ⟨[.pointer (some ⟨m1, 0, none⟩), .pointer (some ⟨m2, 0, none⟩)]⟩ ∧ Mem w0 w' No [(m2, .row 3 [.int .i64 c]), (m1, .row 23 [.int .i64 a, .int .i64 b])] := by
  refine C_of Try.func61 rfl rfl rfl fun κ hret hnorm => ?_
  have hm := Mem.start w0
  refine HW_seq rfl ?_
  refine HW_text (.act 0 (.act 1 (.pure 2 .done))) (by kernel_rfl) ?_
  refine a_box rfl rfl rfl rfl hm trivial fun m1 w hg_m1 hm hh => ?_
  refine a_box rfl rfl rfl rfl hm trivial fun m2 w hg_m2 hm hh => ?_
  refine rw_p rfl rfl (y_assign rfl) ?_
  refine rw_done ?_
  refine gn_sq ?_
  refine HW_seq rfl ?_
  refine HW_text (.pure 0 (.pure 1 .done)) (by kernel_rfl) ?_
  refine rw_p rfl rfl (y_func rfl rfl) ?_
  refine rw_p rfl rfl (y_assign rfl) ?_
  refine rw_done ?_
  refine gn_sq ?_
  refine HW_ret rfl ?_
  refine toR (fin hret rfl (.tmp rfl .nil) .one ?_)
  exact ⟨_, _, rfl, hm⟩

theorem ext_pieces1 (a b c : Int) (m1 m2 yl : Nat) (I J : Nat → World → Prop) (w0 : World) (hs : 1 ≤ c ∧ c ≤ 9223372036854775807) (h : 0 ≤ a ∧ 0 ≤ b ∧ a + b ≤ 4611686018427387903)
    (hcI : ∀ i w, I i w → w.heap[m1]? = some (Blk.row 23 [.int .i64 (Pl.rest a b c i).1, .int .i64 (Pl.rest a b c i).2]).toObj ∧ w.heap[m2]? = some (Blk.row 3 [.int .i64 c]).toObj)
    (hcJ : ∀ i w, J i w → w.heap[m1]? = some (Blk.row 23 [.int .i64 (Pl.rest a b c i).1, .int .i64 (Pl.rest a b c i).2]).toObj)
    (hy : ∀ i w, I i w → 0 < (Pl.rest a b c i).2 → Yw Try.prog yl [.agg ⟨[.int .i64 (Pl.rest a b c i).1, .int .i64 (min c (Pl.rest a b c i).2)]⟩] w fun v w' => v = .bool true ∧ J i w')
    (hst : ∀ i w, J i w → 0 < (Pl.rest a b c i).2 → I (i + 1) ((w.setRow m1 ⟨[.int .i64 ((Pl.rest a b c i).1 + min c (Pl.rest a b c i).2), .int .i64 (Pl.rest a b c i).2]⟩).setRow m1 ⟨[.int .i64 ((Pl.rest a b c i).1 + min c (Pl.rest a b c i).2), .int .i64 ((Pl.rest a b c i).2 - min c (Pl.rest a b c i).2)]⟩)) (h0 : I 0 w0) : C Try.prog 70 [.func (.yield yl) #[] #[], .pointer (some ⟨m1, 0, none⟩), .pointer (some ⟨m2, 0, none⟩)] w0 fun v w' => ∃ i, I i w' ∧ (Pl.rest a b c i).2 = 0 ∧ ∀ j, j < i → 0 < (Pl.rest a b c j).2 := by
  refine C_of Try.func70 rfl rfl rfl fun κ hret hnorm => ?_
  refine HW_block rfl ?_
  refine HW_loopK (ι := Nat) rfl (ks := [0, 1, 2]) (.cons rfl (.cons rfl (.cons rfl .nil))) (fun i => []) (fun i w => I i w ∧ ∀ j, j < i → 0 < (Pl.rest a b c j).2) (fun i => (Pl.rest a b c i).2.toNat) 0 (⟨h0, fun _ h => absurd h (Nat.not_lt_zero _)⟩) trivial (fun i w hM => ?_)
  obtain ⟨hI, hlt⟩ := hM
  obtain ⟨hb, hz⟩ := hcI _ _ hI
  have h1 := Pl.rest_sum a b c i
  have h2 := Pl.rest_le (o := a) (i := i) hs.1 h.2.1
  refine HW_seq rfl ?_
  refine HW_seq rfl ?_
  refine HW_text (.pure 0 (.pure 1 (.pure 2 .done))) (by kernel_rfl) ?_
  refine rw_p rfl rfl (y_fieldAddr rfl fo23_1) ?_
  refine rw_p rfl rfl (y_load rfl sc3 (nowT hb) rfl) ?_
  refine rw_p rfl rfl (y_gt rfl rfl) ?_
  refine rw_done ?_
  refine gn_sq ?_
  refine HW_cond rfl rfl (fun hc0 => ?_) (fun hc0 => ?_)
  ·
    simp only [decide_eq_true_eq] at hc0
    have hn := Pl.rest_succ hs.1 hc0
    refine HW_skip rfl ?_
    refine gn_sq ?_
    refine HW_block rfl ?_
    refine HW_seq rfl ?_
    refine HW_text (.pure 0 (.pure 1 (.pure 2 (.pure 3 (.pure 4 .done))))) (by kernel_rfl) ?_
    refine rw_p rfl rfl (y_load rfl sc3 (nowT hz) rfl) ?_
    refine rw_p rfl rfl (y_fieldAddr rfl fo23_1) ?_
    refine rw_p rfl rfl (y_load rfl sc3 (nowT hb) rfl) ?_
    refine rw_p rfl rfl (y_min rfl rfl) ?_
    refine rw_p rfl rfl (y_assign rfl) ?_
    refine rw_done ?_
    refine gn_sq ?_
    refine HW_seq rfl ?_
    refine HW_seq rfl ?_
    refine HW_text (.pure 0 (.pure 1 (.pure 2 (.pure 3 (.pure 4 (.act 5 (.pure 6 .done))))))) (by kernel_rfl) ?_
    refine rw_p rfl rfl (y_move rfl) ?_
    refine rw_p rfl rfl (y_fieldAddr rfl fo23_0) ?_
    refine rw_p rfl rfl (y_load rfl sc3 (nowT hb) rfl) ?_
    refine rw_p rfl rfl (y_move rfl) ?_
    refine rw_p rfl rfl (y_build (cs := [_, _]) z23 ft23 rfl rfl rfl rfl rfl) ?_
    refine a_yield rfl rfl rfl rfl (hy i _ hI hc0) fun v w hR => ?_
    obtain ⟨rfl, hJ⟩ := hR
    refine ⟨trivial, ?_⟩
    have hb := hcJ _ _ hJ
    refine rw_p rfl rfl (y_not rfl) ?_
    refine rw_done ?_
    refine gn_sq ?_
    refine HW_condF rfl rfl rfl ?_
    refine HW_skip rfl ?_
    refine gn_sq ?_
    refine HW_seq rfl ?_
    refine HW_text (.pure 0 (.pure 1 (.pure 2 (.pure 3 (.pure 4 (.act 5 .done)))))) (by kernel_rfl) ?_
    refine rw_p rfl rfl (y_fieldAddr rfl fo23_0) ?_
    refine rw_p rfl rfl (y_load rfl sc3 (nowT hb) rfl) ?_
    refine rw_p rfl rfl (y_move rfl) ?_
    refine rw_p rfl rfl (y_add rfl rfl (i64w (by omega) (by omega))) ?_
    refine rw_p rfl rfl (y_fieldAddr rfl fo23_0) ?_
    refine a_storeW rfl rfl rfl rfl sz3 rfl hb rfl ?_
    replace hb := row_set (l' := [.int .i64 ((Pl.rest a b c i).1 + min c (Pl.rest a b c i).2), .int .i64 (Pl.rest a b c i).2]) hb
    refine rw_done ?_
    refine gn_sq ?_
    refine HW_text (.pure 0 (.pure 1 (.pure 2 (.pure 3 (.pure 4 (.act 5 .done)))))) (by kernel_rfl) ?_
    refine rw_p rfl rfl (y_fieldAddr rfl fo23_1) ?_
    refine rw_p rfl rfl (y_load rfl sc3 (nowT hb) rfl) ?_
    refine rw_p rfl rfl (y_move rfl) ?_
    refine rw_p rfl rfl (y_sub rfl rfl (i64w (by omega) (by omega))) ?_
    refine rw_p rfl rfl (y_fieldAddr rfl fo23_1) ?_
    refine a_storeW rfl rfl rfl rfl sz3 rfl hb rfl ?_
    refine rw_done ?_
    refine gn_bl ?_
    refine next (i + 1) ?_ ⟨hst i _ hJ hc0, fun j hj => ?_⟩ ⟨rfl, rfl, rfl, trivial⟩
    · rw [hn]; simp only; omega
    · rcases Nat.lt_or_ge j i with h | h
      · exact hlt j h
      · obtain rfl : j = i := by omega
        exact hc0
  ·
    simp only [Bool.and_eq_true, Bool.or_eq_true, Bool.and_eq_false_iff, Bool.or_eq_false_iff, Bool.not_eq_true', Bool.not_eq_false', decide_eq_true_eq, decide_eq_false_iff_not] at hc0
    refine HW_exit rfl ?_
    refine gx_sq (gx_lp ?_)
    refine gx_here ?_
    refine toN (fin hnorm rfl .nil .nil ?_)
    exact ⟨i, hI, by omega, hlt⟩

theorem ext_split (a b c : Int) (w0 : World) (h : 0 ≤ a ∧ 0 ≤ b ∧ a + b ≤ 4611686018427387903) (hc : Pl.I64 c) : C Try.prog 47 [.agg #[.int .i64 a, .int .i64 b], .int .i64 c] w0 fun v w' => ∃ p cap gg bb n, v = .slice p n cap ∧ (n : Int) = Pl.pieces b c ∧ Acc 23 2 p n cap ((List.range n).flatMap fun j => encE (Pl.piece a b c j)) gg bb ∧ Mem w0 w' No [(gg, bb)] := by
  refine C_ofM Try.func47 rfl rfl rfl fun κ hret hnorm => ?_
  have hm := Mem.start w0
  refine HW_seq rfl ?_
  refine HW_text (.act 0 (.pure 1 .done)) (by kernel_rfl) ?_
  refine a_box rfl rfl rfl rfl hm trivial fun m1 w hg_m1 hm hh => ?_
  refine rw_p rfl rfl (y_assign rfl) ?_
  refine rw_done ?_
  refine gn_sq ?_
  refine HW_seq rfl ?_
  refine HW_seq rfl ?_
  refine HW_text (.pure 0 (.pure 1 (.pure 2 (.pure 3 (.pure 4 (.pure 5 (.pure 6 (.pure 7 (.pure 8 (.pure 9 (.pure 10 (.pure 11 (.pure 12 (.pure 13 (.pure 14 .done))))))))))))))) (by kernel_rfl) ?_
  refine rw_p rfl rfl (y_move rfl) ?_
  refine rw_p rfl rfl (y_lt rfl rfl) ?_
  refine rw_p rfl rfl (y_move rfl) ?_
  refine rw_g rfl rfl rfl (fun hc => (y_fieldAddr rfl fo23_1)) ?_
  refine rw_g rfl rfl rfl (fun hc => (y_load (gx hc rfl) sc3 (hm.nt 0 rfl) rfl)) ?_
  refine rw_g rfl rfl rfl (fun hc => (y_eq (gx hc rfl) rfl)) ?_
  refine rw_p rfl rfl (y_or rfl rfl rfl) ?_
  refine rw_p rfl rfl (y_move rfl) ?_
  refine rw_g rfl rfl rfl (fun hc => (y_fieldAddr rfl fo23_1)) ?_
  refine rw_g rfl rfl rfl (fun hc => (y_load (gx hc rfl) sc3 (hm.nt 0 rfl) rfl)) ?_
  refine rw_g rfl rfl rfl (fun hc => (y_sub (gx hc rfl) rfl (i64w (by omega) (by omega)))) ?_
  refine rw_g rfl rfl rfl (fun hc => (y_move rfl)) ?_
  refine rw_g rfl rfl rfl (fun hc => (y_quo (gx hc rfl) (gx hc rfl) (by simp at hc; omega) (tdivw (by simp at hc; omega) (by omega) (by simp at hc; omega)))) ?_
  refine rw_g rfl rfl rfl (fun hc => (y_ge (gx hc rfl) rfl)) ?_
  refine rw_p rfl rfl (y_or rfl rfl rfl) ?_
  refine rw_done ?_
  refine gn_sq ?_
  refine HW_cond rfl rfl (fun hc0 => ?_) (fun hc0 => ?_)
  ·
    simp only [Bool.and_eq_true, Bool.or_eq_true, Bool.and_eq_false_iff, Bool.or_eq_false_iff, Bool.not_eq_true', Bool.not_eq_false', decide_eq_true_eq, decide_eq_false_iff_not] at hc0
    refine HW_seq rfl ?_
    refine HW_text (.pure 0 .done) (by kernel_rfl) ?_
    refine rw_p rfl rfl (y_assign rfl) ?_
    refine rw_done ?_
    refine gn_sq ?_
    refine HW_ret rfl ?_
    refine gr_sq ?_
    refine toR (fin0 hret rfl (.tmp rfl .nil) .one ?_)
    exact ⟨none, 0, 0, .gap, 0, rfl, by unfold Pl.pieces; rw [if_pos (by omega)]; rfl, .nil _ _ _ _, (hm.drop (List.nil_sublist _)).gapIn⟩
  ·
    simp only [Bool.and_eq_true, Bool.or_eq_true, Bool.and_eq_false_iff, Bool.or_eq_false_iff, Bool.not_eq_true', Bool.not_eq_false', decide_eq_true_eq, decide_eq_false_iff_not] at hc0
    refine HW_skip rfl ?_
    refine gn_sq ?_
    refine HW_seq rfl ?_
    refine HW_text (.act 0 .done) (by kernel_rfl) ?_
    refine a_alloc rfl rfl z61 hm trivial fun m2 w hg_m2 hm hh => ?_
    replace hm := hm.gapIn
    have ha_s := Acc.nil 23 2 none 0
    refine rw_done ?_
    refine gn_sq ?_
    refine HW_seq rfl ?_
    refine HW_seq rfl ?_
    refine HW_text (.pure 0 (.pure 1 (.act 2 .done))) (by kernel_rfl) ?_
    refine rw_p rfl rfl (y_loadA (s := 2) (vs := [_, _]) rfl ag23 (hm.nt 2 rfl) rfl) ?_
    refine rw_p rfl rfl (y_move rfl) ?_
    refine a_call rfl rfl rfl go61 (ext_pieces _ _ _ _) fun v w hR => ?_
    obtain ⟨q1, q2, rfl, hmc⟩ := hR
    refine ⟨trivial, ?_⟩
    replace hm := hm.call (A := []) hmc fun _ h => h.elim
    refine rw_done ?_
    refine gn_sq ?_
    refine HW_block rfl ?_
    refine HW_range rfl rfl go70 hm fun a_ fn r0 l w LB hLB hfr hl_ hs_ hm => ?_
    refine C.mono (ext_pieces1 a b c q1 q2 l (fun i w => ∃ p cap gg bb, Mem w0 w No ((l, LB .ready none) :: (r0, dblk (some [])) :: (q2, .row 3 [.int .i64 c]) :: (q1, .row 23 [.int .i64 (Pl.rest a b c i).1, .int .i64 (Pl.rest a b c i).2]) :: (gg, bb) :: (m2, .row 61 [.slice p i cap]) :: (m1, .row 23 [.int .i64 a, .int .i64 b]) :: []) ∧ Acc 23 2 p i cap ((List.range i).flatMap fun j => encE (Pl.piece a b c j)) gg bb)
      (fun i w => ∃ p cap gg bb, Mem w0 w No ((l, LB .ready none) :: (r0, dblk (some [])) :: (q2, .row 3 [.int .i64 c]) :: (q1, .row 23 [.int .i64 (Pl.rest a b c i).1, .int .i64 (Pl.rest a b c i).2]) :: (gg, bb) :: (m2, .row 61 [.slice p (i + 1) cap]) :: (m1, .row 23 [.int .i64 a, .int .i64 b]) :: []) ∧ Acc 23 2 p (i + 1) cap ((List.range (i + 1)).flatMap fun j => encE (Pl.piece a b c j)) gg bb)
      _ (by omega) h ?_ ?_ (fun i w hI hlt => ?_) ?_ ⟨none, 0, 0, .gap, by rw [Pl.rest_zero h.2.1]; exact hm, ha_s⟩) (fun v w hR => ?_)
    · rintro i w ⟨p, cap, gg, bb, hm, -⟩; exact ⟨hm.get (k := 3) rfl, hm.get (k := 2) rfl⟩
    · rintro i w ⟨p, cap, gg, bb, hm, -⟩; exact hm.get (k := 3) rfl
    rotate_left
    · rintro i w ⟨p, cap, gg, bb, hm, ha⟩ hlt
      have h1 := setRow_mem (l' := [.int .i64 ((Pl.rest a b c i).1 + min c (Pl.rest a b c i).2), .int .i64 (Pl.rest a b c i).2]) hm (j := 3) rfl
      have h2 := setRow_mem (l' := [.int .i64 ((Pl.rest a b c i).1 + min c (Pl.rest a b c i).2), .int .i64 ((Pl.rest a b c i).2 - min c (Pl.rest a b c i).2)]) h1 (j := 3) rfl
      exact ⟨p, cap, gg, bb, by rw [Pl.rest_succ (by omega) hlt]; exact h2, ha⟩
    rotate_left
    ·
      subst hLB
      obtain ⟨p_s, cap_s, g_s, b_s, hm, ha_s⟩ := hI
      have hix := Pl.rest_idx (o := a) (by omega) hlt
      have hpr := Pl.piece_rest hlt
      refine Yw.of hfr (hm.get (k := 0) rfl) rfl rfl ?_
      refine HW_text (.act 0 (.act 1 .done)) (by kernel_rfl) ?_
      refine a_alloc rfl rfl z23 hm trivial fun m3 w hg_m3 hm hh => ?_
      refine a_store rfl rfl rfl rfl sz23 rfl hm 0 rfl rfl fun w hm => ?_
      refine rw_done ?_
      refine g_begin hm 1 rfl fun w hm => ?_
      refine HW_block rfl ?_
      refine HW_text (.pure 0 (.pure 1 (.act 2 (.act 3 (.act 4 .done))))) (by kernel_rfl) ?_
      refine rw_p rfl rfl (y_load rfl sc61 (hm.nt 6 rfl) rfl) ?_
      refine rw_p rfl rfl (y_loadA (s := 2) (vs := [_, _]) rfl ag23 (hm.nt 0 rfl) rfl) ?_
      refine a_buildSlice (l := [_, _]) rfl rfl sl61 z23 rfl rfl rfl rfl rfl rfl rfl hm trivial fun m4 w hg_m4 hm hh => ?_
      refine a_append rfl rfl rfl rfl rfl rfl sl61 sl61 z23 rfl rfl (Rd.row0 (hm.get (k := 0) rfl)) rfl ha_s hm 6 rfl (by omega) (by omega) fun p_s cap_s g_s b_s w ha_s hm => ?_
      refine a_store rfl rfl rfl rfl sz61 rfl hm 7 rfl rfl fun w hm => ?_
      refine rw_done ?_
      refine gn_bl ?_
      refine g_end hm 2 rfl fun w hm => ?_
      refine ⟨rfl, p_s, cap_s, g_s, b_s, hm.tail.tail, ?_⟩
      rw [List.range_succ, List.flatMap_append]; simp only [List.flatMap_cons, List.flatMap_nil, List.append_nil]
      rw [hpr]; exact ha_s
    ·
      subst hLB
      obtain ⟨i, ⟨p_s, cap_s, g_s, b_s, hm, ha_s⟩, hz, hlt⟩ := hR
      refine ⟨.ready, none, nofun, hm.get (k := 0) rfl, fun w4 hw4 => ?_⟩
      replace hm := g_over hm hw4
      refine gn_bl ?_
      refine gn_sq ?_
      refine HW_seq rfl ?_
      refine HW_text (.pure 0 (.pure 1 .done)) (by kernel_rfl) ?_
      refine rw_p rfl rfl (y_load rfl sc61 (hm.nt 4 rfl) rfl) ?_
      refine rw_p rfl rfl (y_assign rfl) ?_
      refine rw_done ?_
      refine gn_sq ?_
      refine HW_ret rfl ?_
      refine toR (fin1 hret rfl hm 0 rfl .one fun w hm => ⟨(.tmp rfl .nil), ?_⟩)
      exact ⟨p_s, cap_s, g_s, b_s, i, rfl, Pl.pieces_of (by omega) (by omega) (by omega) hz hlt, ha_s, hm.tail.tail.tail.drop (List.Sublist.cons_cons _ (List.nil_sublist _))⟩

end Go.Proofs.Ytkllojjpaelmhaa
