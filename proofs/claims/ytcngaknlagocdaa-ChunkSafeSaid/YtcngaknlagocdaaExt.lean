/- Contracts of functions of the program: what each returns. Conditions: the hypotheses of each theorem. -/
import Derived.Test.YtcngaknlagocdaaChecked
import Derived.Test.YtcngaknlagocdaaBs2
set_option linter.unusedVariables false
set_option linter.unusedSimpArgs false
namespace Go.Proofs.Ytcngaknlagocdaa
open Go Go.Cx

theorem fo61_0 : fldO Try.prog 61 0 = some 0 := by kernel_rfl
theorem fo61_1 : fldO Try.prog 61 1 = some 1 := by kernel_rfl
theorem sc3 : scal Try.prog 3 = true := by kernel_rfl
theorem go60 : isGo Try.prog 60 = true := by kernel_rfl
theorem mix : Try.prog.follows .mixedOrders = true := by kernel_rfl
theorem ag61 : aggS Try.prog 61 = some 2 := by kernel_rfl
theorem ft61 : fldT Try.prog 61 = some [(0, 1), (1, 1)] := by kernel_rfl
theorem sz61 : szO Try.prog 61 = some 2 := by kernel_rfl
theorem z61 : zer Try.prog 61 = some [.int .i64 0, .int .i64 0] := by kernel_rfl
theorem go54 : isGo Try.prog 54 = true := by kernel_rfl
theorem go68 : isGo Try.prog 68 = true := by kernel_rfl
theorem sl94 : slcO Try.prog 94 = some (61, 2, 16) := by kernel_rfl
theorem go74 : isGo Try.prog 74 = true := by kernel_rfl
theorem go65 : isGo Try.prog 65 = true := by kernel_rfl
theorem go66 : isGo Try.prog 66 = true := by kernel_rfl

theorem ext_end (a b : Int) (w0 : World) (h : Pl.I64 (a + b)) : C Try.prog 54 [.agg #[.int .i64 a, .int .i64 b]] w0 fun v w' => v = .int .i64 (a + b) ∧ Ext No w0 w' := by
  refine C_of Try.func54 rfl rfl rfl fun κ hret hnorm => ?_
  have hm := Mem.start w0
  refine HW_seq rfl ?_
  refine HW_text (.act 0 (.pure 1 .done)) (by kernel_rfl) ?_
  refine a_box rfl rfl rfl rfl hm trivial fun m1 w hg_m1 hm hh => ?_
  refine rw_p rfl rfl (y_assign rfl) ?_
  refine rw_done ?_
  refine gn_sq ?_
  refine HW_seq rfl ?_
  refine HW_text (.pure 0 (.pure 1 (.pure 2 (.pure 3 (.pure 4 (.pure 5 .done)))))) (by kernel_rfl) ?_
  refine rw_p rfl rfl (y_fieldAddr rfl fo61_0) ?_
  refine rw_p rfl rfl (y_load rfl sc3 (hm.nt 0 rfl) rfl) ?_
  refine rw_p rfl rfl (y_fieldAddr rfl fo61_1) ?_
  refine rw_p rfl rfl (y_load rfl sc3 (hm.nt 0 rfl) rfl) ?_
  refine rw_p rfl rfl (y_add rfl rfl (i64w (by omega) (by omega))) ?_
  refine rw_p rfl rfl (y_assign rfl) ?_
  refine rw_done ?_
  refine gn_sq ?_
  refine HW_ret rfl ?_
  refine toR (fin hret rfl (.tmp rfl .nil) .one ?_)
  exact ⟨rfl, hm.to⟩

theorem r1_max (w0 : World) : C Try.prog 60 [] w0 fun v w' => v = .int .i64 4611686018427387903 ∧ Ext No w0 w' := by
  refine C_of Try.func60 rfl rfl rfl fun κ hret hnorm => ?_
  have hm := Mem.start w0
  refine HW_seq rfl ?_
  refine HW_text (.pure 0 .done) (by kernel_rfl) ?_
  refine rw_p rfl rfl (y_assign rfl) ?_
  refine rw_done ?_
  refine gn_sq ?_
  refine HW_seq rfl ?_
  refine HW_text (.pure 0 .done) (by kernel_rfl) ?_
  refine rw_p rfl rfl (y_assign rfl) ?_
  refine rw_done ?_
  refine gn_sq ?_
  refine HW_ret rfl ?_
  refine toR (fin hret rfl (.tmp rfl .nil) .one ?_)
  exact ⟨rfl, hm.to⟩

theorem r1_valid (a b : Int) (w0 : World) (ha : Pl.I64 a) (hb : Pl.I64 b) : C Try.prog 39 [.agg #[.int .i64 a, .int .i64 b]] w0 fun v w' => v = .bool (Pl.valid a b) ∧ Ext No w0 w' := by
  refine C_of Try.func39 rfl rfl rfl fun κ hret hnorm => ?_
  have hm := Mem.start w0
  refine HW_seq rfl ?_
  refine HW_text (.act 0 (.pure 1 .done)) (by kernel_rfl) ?_
  refine a_box rfl rfl rfl rfl hm trivial fun m1 w hg_m1 hm hh => ?_
  refine rw_p rfl rfl (y_assign rfl) ?_
  refine rw_done ?_
  refine gn_sq ?_
  refine HW_seq rfl ?_
  refine HW_draw (.pure 0 (.pure 1 (.pure 2 (.pure 3 (.pure 4 (.pure 5 (.pure 6 (.pure 7 (.pure 8 (.pure 9 (.pure 10 (.act 11 (.pure 12 (.pure 13 (.pure 14 (.pure 15 (.pure 16 (.pure 18 (.pure 19 (.act 17 (.pure 20 (.pure 21 (.pure 22 (.pure 23 .done)))))))))))))))))))))))) No mix (by kernel_rfl) hm fun w hw hm0 hh => ?_
  have hm := hm0
  refine rw_p rfl rfl (y_fieldAddr rfl fo61_0) ?_
  refine rw_p rfl rfl (y_load rfl sc3 (hm0.nd 0 rfl id) rfl) ?_
  refine rw_p rfl rfl (y_ge rfl rfl) ?_
  refine rw_p rfl rfl (y_move rfl) ?_
  refine rw_g rfl rfl rfl (fun hc => (y_fieldAddr rfl fo61_1)) ?_
  refine rw_g rfl rfl rfl (fun hc => (y_load (gx hc rfl) sc3 (hm0.nd 0 rfl id) rfl)) ?_
  refine rw_g rfl rfl rfl (fun hc => (y_ge (gx hc rfl) rfl)) ?_
  refine rw_p rfl rfl (y_and rfl rfl rfl) ?_
  refine rw_p rfl rfl (y_move rfl) ?_
  refine rw_g rfl rfl rfl (fun hc => (y_fieldAddr rfl fo61_0)) ?_
  refine rw_g rfl rfl rfl (fun hc => (y_load (gx hc rfl) sc3 (hm0.nd 0 rfl id) rfl)) ?_
  refine a_callG rfl rfl rfl (fun hc => rfl) go60 (fun hc => (r1_max _)) hh fun w hE hh => ?_
  replace hm := hm.ext hE
  refine rw_g rfl rfl rfl (fun hc => (y_le (gx hc rfl) (gx hc rfl))) ?_
  refine rw_p rfl rfl (y_and rfl rfl rfl) ?_
  refine rw_p rfl rfl (y_move rfl) ?_
  refine rw_g rfl rfl rfl (fun hc => (y_fieldAddr rfl fo61_1)) ?_
  refine rw_g rfl rfl rfl (fun hc => (y_load (gx hc rfl) sc3 (hm0.nd 0 rfl id) rfl)) ?_
  refine rw_g rfl rfl rfl (fun hc => (y_fieldAddr rfl fo61_0)) ?_
  refine rw_g rfl rfl rfl (fun hc => (y_load (gx hc rfl) sc3 (hm0.nd 0 rfl id) rfl)) ?_
  refine a_callG rfl rfl rfl (fun hc => rfl) go60 (fun hc => (r1_max _)) hh fun w hE hh => ?_
  replace hm := hm.ext hE
  refine rw_g rfl rfl rfl (fun hc => (y_sub (gx hc rfl) (gx hc rfl) (i64w (by simp at hc; omega) (by simp at hc; omega)))) ?_
  refine rw_g rfl rfl rfl (fun hc => (y_le (gx hc rfl) (gx hc rfl))) ?_
  refine rw_p rfl rfl (y_and rfl rfl rfl) ?_
  refine rw_p rfl rfl (y_assign rfl) ?_
  refine rw_done ?_
  refine gn_sq ?_
  refine HW_ret rfl ?_
  refine toR (fin hret rfl (.tmp rfl .nil) .one ?_)
  exact ⟨congrArg Value.bool (by rw [Bool.eq_iff_iff]; simp [Pl.valid]; omega), hm.to⟩

theorem ext_between (a b c : Int) (w0 : World) (h : Pl.I64 (b - a)) : C Try.prog 68 [.int .i64 a, .int .i64 b, .int .i64 c] w0 fun v w' => v = .tuple ⟨[.agg ⟨exV (Pl.btw a b c)⟩, .bool (Pl.btw a b c).isSome]⟩ ∧ Ext No w0 w' := by
  refine C_of Try.func68 rfl rfl rfl fun κ hret hnorm => ?_
  have hm := Mem.start w0
  refine HW_seq rfl ?_
  refine HW_text (.act 0 (.pure 1 .done)) (by kernel_rfl) ?_
  refine a_alloc rfl rfl z61 hm trivial fun m1 w hg_m1 hm hh => ?_
  refine rw_p rfl rfl (y_assign rfl) ?_
  refine rw_done ?_
  refine gn_sq ?_
  refine HW_seq rfl ?_
  refine HW_seq rfl ?_
  refine HW_text (.pure 0 (.pure 1 (.pure 2 (.pure 3 (.pure 4 .done))))) (by kernel_rfl) ?_
  refine rw_p rfl rfl (y_move rfl) ?_
  refine rw_p rfl rfl (y_move rfl) ?_
  refine rw_p rfl rfl (y_sub rfl rfl (i64w (by omega) (by omega))) ?_
  refine rw_p rfl rfl (y_move rfl) ?_
  refine rw_p rfl rfl (y_lt rfl rfl) ?_
  refine rw_done ?_
  refine gn_sq ?_
  refine HW_cond rfl rfl (fun hc0 => ?_) (fun hc0 => ?_)
  ·
    simp only [Bool.and_eq_true, Bool.or_eq_true, Bool.and_eq_false_iff, Bool.or_eq_false_iff, Bool.not_eq_true', Bool.not_eq_false', decide_eq_true_eq, decide_eq_false_iff_not] at hc0
    refine HW_seq rfl ?_
    refine HW_text (.pure 0 (.act 1 (.pure 2 .done))) (by kernel_rfl) ?_
    refine rw_p rfl rfl (y_build (cs := [_, _]) z61 ft61 rfl rfl rfl rfl rfl) ?_
    refine a_store rfl rfl rfl rfl sz61 rfl hm 0 rfl rfl fun w hm => ?_
    refine rw_p rfl rfl (y_assign rfl) ?_
    refine rw_done ?_
    refine gn_sq ?_
    refine HW_ret rfl ?_
    refine gr_sq ?_
    refine toR (fin hret rfl (.cell rfl (run_loadVar_a (vs := [_, _]) ag61 (hm.get (k := 0) rfl) rfl) (.tmp rfl .nil)) .more ?_)
    exact ⟨by simp [tup, Pl.btw, hc0, exV], hm.to⟩
  ·
    simp only [Bool.and_eq_true, Bool.or_eq_true, Bool.and_eq_false_iff, Bool.or_eq_false_iff, Bool.not_eq_true', Bool.not_eq_false', decide_eq_true_eq, decide_eq_false_iff_not] at hc0
    refine HW_skip rfl ?_
    refine gn_sq ?_
    refine HW_seq rfl ?_
    refine HW_text (.pure 0 (.pure 1 (.pure 2 (.pure 3 (.pure 4 (.act 5 (.pure 6 .done))))))) (by kernel_rfl) ?_
    refine rw_p rfl rfl (y_move rfl) ?_
    refine rw_p rfl rfl (y_move rfl) ?_
    refine rw_p rfl rfl (y_move rfl) ?_
    refine rw_p rfl rfl (y_sub rfl rfl (i64w (by omega) (by omega))) ?_
    refine rw_p rfl rfl (y_build (cs := [_, _]) z61 ft61 rfl rfl rfl rfl rfl) ?_
    refine a_store rfl rfl rfl rfl sz61 rfl hm 0 rfl rfl fun w hm => ?_
    refine rw_p rfl rfl (y_assign rfl) ?_
    refine rw_done ?_
    refine gn_sq ?_
    refine HW_ret rfl ?_
    refine toR (fin hret rfl (.cell rfl (run_loadVar_a (vs := [_, _]) ag61 (hm.get (k := 0) rfl) rfl) (.tmp rfl .nil)) .more ?_)
    exact ⟨by simp [tup, Pl.btw, exV, hc0], hm.to⟩

theorem ext_overlap (a b c e : Int) (w0 : World) (h1 : 0 ≤ a ∧ 0 ≤ b ∧ a + b ≤ 9223372036854775807) (h2 : 0 ≤ c ∧ 0 ≤ e ∧ c + e ≤ 9223372036854775807) : C Try.prog 59 [.agg #[.int .i64 a, .int .i64 b], .agg #[.int .i64 c, .int .i64 e]] w0 fun v w' => v = .tuple ⟨[.agg ⟨exV (Pl.overlap a b c e)⟩, .bool (Pl.overlap a b c e).isSome]⟩ ∧ Ext No w0 w' := by
  refine C_of Try.func59 rfl rfl rfl fun κ hret hnorm => ?_
  have hm := Mem.start w0
  refine HW_seq rfl ?_
  refine HW_text (.act 0 (.act 1 (.act 2 (.pure 3 .done)))) (by kernel_rfl) ?_
  refine a_box rfl rfl rfl rfl hm trivial fun m1 w hg_m1 hm hh => ?_
  refine a_box rfl rfl rfl rfl hm trivial fun m2 w hg_m2 hm hh => ?_
  refine a_alloc rfl rfl z61 hm trivial fun m3 w hg_m3 hm hh => ?_
  refine rw_p rfl rfl (y_assign rfl) ?_
  refine rw_done ?_
  refine gn_sq ?_
  refine HW_seq rfl ?_
  refine HW_draw (.pure 0 (.pure 1 (.pure 2 (.pure 3 (.pure 4 (.pure 5 (.pure 7 (.act 6 (.act 8 (.pure 9 (.act 10 (.pure 11 (.pure 12 (.cut (.act 13 (.pure 14 .done)))))))))))))))) No mix (by kernel_rfl) hm fun w hw hm0 hh => ?_
  have hm := hm0
  refine rw_p rfl rfl (y_fieldAddr rfl fo61_0) ?_
  refine rw_p rfl rfl (y_load rfl sc3 (hm0.nd 2 rfl id) rfl) ?_
  refine rw_p rfl rfl (y_fieldAddr rfl fo61_0) ?_
  refine rw_p rfl rfl (y_load rfl sc3 (hm0.nd 1 rfl id) rfl) ?_
  refine rw_p rfl rfl (y_max rfl rfl) ?_
  refine rw_p rfl rfl (y_loadA (s := 2) (vs := [_, _]) rfl ag61 (hm0.nd 2 rfl id) rfl) ?_
  refine rw_p rfl rfl (y_loadA (s := 2) (vs := [_, _]) rfl ag61 (hm0.nd 1 rfl id) rfl) ?_
  refine a_call rfl rfl rfl go54 (ext_end _ _ _ (by omega)) fun v w hR => ?_
  obtain ⟨rfl, hE⟩ := hR
  refine ⟨hh.ext hE, ?_⟩
  replace hm := hm.ext hE
  replace hh := hh.ext hE
  refine a_call rfl rfl rfl go54 (ext_end _ _ _ (by omega)) fun v w hR => ?_
  obtain ⟨rfl, hE⟩ := hR
  refine ⟨hh.ext hE, ?_⟩
  replace hm := hm.ext hE
  replace hh := hh.ext hE
  refine rw_p rfl rfl (y_min rfl rfl) ?_
  refine a_call rfl rfl rfl go68 (ext_between _ _ _ _ (by omega)) fun v w hR => ?_
  obtain ⟨rfl, hE⟩ := hR
  refine ⟨hh.ext hE, ?_⟩
  replace hm := hm.ext hE
  replace hh := hh.ext hE
  refine rw_p rfl rfl (y_extract rfl rfl) ?_
  refine rw_p rfl rfl (y_extract rfl rfl) ?_
  refine a_cut ?_
  refine a_store rfl rfl rfl rfl sz61 rfl hm 0 rfl rfl fun w hm => ?_
  refine rw_p rfl rfl (y_assign rfl) ?_
  refine rw_done ?_
  refine gn_sq ?_
  refine HW_ret rfl ?_
  refine toR (fin hret rfl (.cell rfl (run_loadVar_a (vs := [_, _]) ag61 (hm.get (k := 0) rfl) rfl) (.tmp rfl .nil)) .more ?_)
  exact ⟨rfl, hm.to⟩

theorem ext_contains1 (c e a b : Int) (m : Nat) (w0 : World) (hb : w0.heap[m]? = some (Blk.row 61 [.int .i64 a, .int .i64 b]).toObj) (h1 : Pl.I64 (a + b)) (h2 : Pl.I64 (c + e)) : C Try.prog 66 [.agg #[.int .i64 c, .int .i64 e], .pointer (some ⟨m, 0, none⟩)] w0 fun v w' => v = .bool (!Pl.within a b c e) ∧ Ext No w0 w' := by
  refine C_of Try.func66 rfl rfl rfl fun κ hret hnorm => ?_
  have hm := Mem.start w0
  refine HW_seq rfl ?_
  refine HW_text (.act 0 (.pure 1 .done)) (by kernel_rfl) ?_
  refine a_box rfl rfl rfl rfl hm trivial fun m1 w hg_m1 hm hh => ?_
  refine rw_p rfl rfl (y_assign rfl) ?_
  refine rw_done ?_
  refine gn_sq ?_
  refine HW_seq rfl ?_
  refine HW_draw (.pure 0 (.pure 1 (.pure 2 (.pure 3 (.pure 4 (.pure 5 (.pure 6 (.pure 8 (.act 7 (.cut (.act 9 (.pure 10 (.pure 11 (.pure 12 .done)))))))))))))) No mix (by kernel_rfl) hm fun w hw hm0 hh => ?_
  have hm := hm0
  refine rw_p rfl rfl (y_fieldAddr rfl fo61_0) ?_
  refine rw_p rfl rfl (y_load rfl sc3 (hm0.nd 0 rfl id) rfl) ?_
  refine rw_p rfl rfl (y_fieldAddr rfl fo61_0) ?_
  refine rw_p rfl rfl (y_load rfl sc3 (fun u hu => ((hm0.to.trans hu).same _ (Array.getElem?_eq_some_iff.1 hb).1 id).trans hb) rfl) ?_
  refine rw_p rfl rfl (y_lt rfl rfl) ?_
  refine rw_p rfl rfl (y_move rfl) ?_
  refine rw_g rfl rfl rfl (fun hc => (y_loadA (s := 2) (vs := [_, _]) rfl ag61 (hm0.nd 0 rfl id) rfl)) ?_
  refine rw_g rfl rfl rfl (fun hc => (y_loadA (s := 2) (vs := [_, _]) rfl ag61 (fun u hu => ((hm0.to.trans hu).same _ (Array.getElem?_eq_some_iff.1 hb).1 id).trans hb) rfl)) ?_
  refine a_callG rfl rfl rfl (fun hc => (evs_c (gx hc rfl) evs_n)) go54 (fun hc => (ext_end _ _ _ (by omega))) hh fun w hE hh => ?_
  replace hm := hm.ext hE
  refine a_cut ?_
  refine a_callG rfl rfl rfl (fun hc => (evs_c (gx hc rfl) evs_n)) go54 (fun hc => (ext_end _ _ _ (by omega))) trivial fun w hE hh => ?_
  replace hm := hm.ext hE
  refine rw_g rfl rfl rfl (fun hc => (y_gt (gx hc rfl) (gx hc rfl))) ?_
  refine rw_p rfl rfl (y_or rfl rfl rfl) ?_
  refine rw_p rfl rfl (y_assign rfl) ?_
  refine rw_done ?_
  refine gn_sq ?_
  refine HW_ret rfl ?_
  refine toR (fin hret rfl (.tmp rfl .nil) .one ?_)
  exact ⟨congrArg Value.bool (by rw [Bool.eq_iff_iff]; simp [Pl.within]), hm.to⟩

theorem idxf_ext (p : Option Addr) (cap : Nat) (xs : List (Int × Int)) (fi : FuncId) (l2 : List Value) (pred : (Int × Int) → Bool) (w0 : World) (hx : Rd w0 p (xs.flatMap encE)) (hlen : xs.length ≤ 9223372036854775807) (hg : isGo Try.prog fi = true) (hf : ∀ x w1, x ∈ xs → Ext No w0 w1 → C Try.prog fi (.agg ⟨encE x⟩ :: l2) w1 fun v w2 => v = .bool (pred x) ∧ Ext No w1 w2) : C Try.prog 74 [.slice p xs.length cap, .func (.func fi) #[] ⟨l2⟩] w0 fun v w' => v = .int .i64 (Pl.idx pred xs) ∧ Ext No w0 w' := by
  refine C_of Try.func74 rfl rfl rfl fun κ hret hnorm => ?_
  have hm := Mem.start w0
  refine HW_seq rfl ?_
  refine HW_text (.pure 0 .done) (by kernel_rfl) ?_
  refine rw_p rfl rfl (y_assign rfl) ?_
  refine rw_done ?_
  refine gn_sq ?_
  refine HW_seq rfl ?_
  refine HW_seq rfl ?_
  refine HW_text (.pure 0 (.pure 1 (.pure 2 .done))) (by kernel_rfl) ?_
  refine rw_p rfl rfl (y_move rfl) ?_
  refine rw_p rfl rfl (y_len rfl rfl sl94) ?_
  refine rw_p rfl rfl (y_move rfl) ?_
  refine rw_done ?_
  refine gn_sq ?_
  refine HW_block rfl ?_
  refine HW_loopK (ι := Nat) rfl (ks := [0, 1, 7]) (.cons rfl (.cons rfl (.cons rfl .nil))) (fun k => [(8, .int .i64 k)]) (fun k w => Mem w0 w No [] ∧ k ≤ xs.length ∧ ∀ (j : Nat) y, j < k → xs[j]? = some y → pred y = false) (fun k => xs.length - k) 0 (⟨hm, Nat.zero_le _, fun _ _ h => absurd h (Nat.not_lt_zero _)⟩) ⟨rfl, trivial⟩ (fun k w hM => ?_)
  obtain ⟨hm, hk, hno⟩ := hM
  refine HW_seq rfl ?_
  refine HW_text (.pure 0 .done) (by kernel_rfl) ?_
  refine rw_p rfl rfl (y_lt rfl rfl) ?_
  refine rw_done ?_
  refine gn_sq ?_
  refine HW_seq rfl ?_
  refine HW_cond rfl rfl (fun hc0 => ?_) (fun hc0 => ?_)
  ·
    simp only [decide_eq_true_eq] at hc0
    obtain ⟨x, hi⟩ : ∃ y_, xs[k]? = some y_ := ⟨_, List.getElem?_eq_getElem (by omega)⟩
    obtain ⟨qb, qo, rfl⟩ := hx.atI encE_len (by decide) hi
    refine HW_skip rfl ?_
    refine gn_sq ?_
    refine HW_seq rfl ?_
    refine HW_block rfl ?_
    refine HW_seq rfl ?_
    refine HW_text (.pure 0 (.pure 1 .done)) (by kernel_rfl) ?_
    refine rw_p rfl rfl (y_move rfl) ?_
    refine rw_p rfl rfl (y_assign rfl) ?_
    refine rw_done ?_
    refine gn_sq ?_
    refine HW_seq rfl ?_
    refine HW_text (.pure 0 (.pure 1 (.pure 2 (.pure 3 (.pure 4 (.act 5 .done)))))) (by kernel_rfl) ?_
    refine rw_p rfl rfl (y_move rfl) ?_
    refine rw_p rfl rfl (y_move rfl) ?_
    refine rw_p rfl rfl (y_move rfl) ?_
    refine rw_p rfl rfl (y_index rfl rfl sl94 rfl (by omega) (by omega)) ?_
    refine rw_p rfl rfl (y_elA rfl ag61 (hx.ext0 hm.to).nt encE_len hi) ?_
    refine a_callV rfl rfl rfl rfl hg (hf x _ (List.mem_of_getElem? hi) hm.to) fun v w hR => ?_
    obtain ⟨rfl, hE⟩ := hR
    refine ⟨trivial, ?_⟩
    replace hm := hm.ext hE
    refine rw_done ?_
    refine gn_sq ?_
    refine HW_cond rfl rfl (fun hc1 => ?_) (fun hc1 => ?_)
    ·
      refine HW_seq rfl ?_
      refine HW_text (.pure 0 (.pure 1 .done)) (by kernel_rfl) ?_
      refine rw_p rfl rfl (y_move rfl) ?_
      refine rw_p rfl rfl (y_assign rfl) ?_
      refine rw_done ?_
      refine gn_sq ?_
      refine HW_ret rfl ?_
      refine gr_bl (gr_sq (gr_lp (gr_bl (gr_sq ?_))))
      refine toR (fin hret rfl (.tmp rfl .nil) .one ?_)
      exact ⟨by rw [Pl.idx_first hi hc1 hno], hm.to⟩
    ·
      refine HW_skip rfl ?_
      refine gn_bl ?_
      refine gn_sq ?_
      refine HW_text (.pure 0 (.pure 1 .done)) (by kernel_rfl) ?_
      refine rw_p rfl rfl (y_add rfl rfl (i64w (by omega) (by omega))) ?_
      refine rw_p rfl rfl (y_move rfl) ?_
      refine rw_done ?_
      refine next (k + 1) (by omega) ⟨hm, by omega, fun j y hj hy => ?_⟩ ⟨nx k, rfl, rfl, rfl, trivial⟩
      rcases Nat.lt_or_ge j k with h | h
      · exact hno j y h hy
      · obtain rfl : j = k := by omega
        rw [hi] at hy; cases hy; exact hc1
  ·
    have hk : k = xs.length := by simp at hc0; omega
    subst hk
    refine HW_exit rfl ?_
    refine gx_sq (gx_lp ?_)
    refine gx_here ?_
    refine gn_sq ?_
    refine HW_seq rfl ?_
    refine HW_text (.pure 0 .done) (by kernel_rfl) ?_
    refine rw_p rfl rfl (y_assign rfl) ?_
    refine rw_done ?_
    refine gn_sq ?_
    refine HW_ret rfl ?_
    refine toR (fin hret rfl (.tmp rfl .nil) .one ?_)
    exact ⟨by rw [Pl.idx_none hno], hm.to⟩

theorem conf_ext (p : Option Addr) (cap : Nat) (xs : List (Int × Int)) (fi : FuncId) (l2 : List Value) (pred : (Int × Int) → Bool) (w0 : World) (hx : Rd w0 p (xs.flatMap encE)) (hlen : xs.length ≤ 9223372036854775807) (hg : isGo Try.prog fi = true) (hf : ∀ x w1, x ∈ xs → Ext No w0 w1 → C Try.prog fi (.agg ⟨encE x⟩ :: l2) w1 fun v w2 => v = .bool (pred x) ∧ Ext No w1 w2) : C Try.prog 65 [.slice p xs.length cap, .func (.func fi) #[] ⟨l2⟩] w0 fun v w' => v = .bool (xs.any pred) ∧ Ext No w0 w' := by
  refine C_of Try.func65 rfl rfl rfl fun κ hret hnorm => ?_
  have hm := Mem.start w0
  refine HW_seq rfl ?_
  refine HW_text (.pure 0 .done) (by kernel_rfl) ?_
  refine rw_p rfl rfl (y_assign rfl) ?_
  refine rw_done ?_
  refine gn_sq ?_
  refine HW_seq rfl ?_
  refine HW_text (.pure 0 (.pure 1 (.act 2 (.pure 3 (.pure 4 .done))))) (by kernel_rfl) ?_
  refine rw_p rfl rfl (y_move rfl) ?_
  refine rw_p rfl rfl (y_move rfl) ?_
  refine a_call rfl rfl rfl go74 (idxf_ext p cap xs fi l2 pred _ hx hlen hg hf) fun v w hR => ?_
  obtain ⟨rfl, hE⟩ := hR
  refine ⟨trivial, ?_⟩
  replace hm := hm.ext hE
  refine rw_p rfl rfl (y_ge rfl rfl) ?_
  refine rw_p rfl rfl (y_assign rfl) ?_
  refine rw_done ?_
  refine gn_sq ?_
  refine HW_ret rfl ?_
  refine toR (fin hret rfl (.tmp rfl .nil) .one ?_)
  exact ⟨by rw [← Pl.idx_nonneg], hm.to⟩

theorem ext_contains (a b : Int) (p : Option Addr) (cap : Nat) (xs : List (Int × Int)) (w0 : World) (h1 : Pl.I64 (a + b)) (hx : Rd w0 p (xs.flatMap encE)) (hlen : xs.length ≤ 9223372036854775807) (hok : ∀ x ∈ xs, Pl.I64 (x.1 + x.2)) : C Try.prog 52 [.agg #[.int .i64 a, .int .i64 b], .slice p xs.length cap] w0 fun v w' => v = .bool (xs.all fun x => Pl.within a b x.1 x.2) ∧ Ext No w0 w' := by
  refine C_of Try.func52 rfl rfl rfl fun κ hret hnorm => ?_
  have hm := Mem.start w0
  refine HW_seq rfl ?_
  refine HW_text (.act 0 (.pure 1 .done)) (by kernel_rfl) ?_
  refine a_box rfl rfl rfl rfl hm trivial fun m1 w hg_m1 hm hh => ?_
  refine rw_p rfl rfl (y_assign rfl) ?_
  refine rw_done ?_
  refine gn_sq ?_
  refine HW_seq rfl ?_
  refine HW_text (.pure 0 (.pure 1 (.act 2 (.pure 3 (.pure 4 .done))))) (by kernel_rfl) ?_
  refine rw_p rfl rfl (y_move rfl) ?_
  refine rw_p rfl rfl (y_func rfl rfl) ?_
  refine a_call rfl rfl rfl go65 (conf_ext p cap xs _ _ (fun x => !Pl.within a b x.1 x.2) _ (hx.ext0 hm.to) hlen go66 fun x w1 hm1 hx1 => ext_contains1 x.1 x.2 a b m1 w1 ((hx1.same _ (hm.lt (List.mem_cons_self)) id).trans (hm.get (k := 0) rfl)) (by omega) (hok x hm1)) fun v w hR => ?_
  obtain ⟨rfl, hE⟩ := hR
  refine ⟨trivial, ?_⟩
  replace hm := hm.ext hE
  refine rw_p rfl rfl (y_not rfl) ?_
  refine rw_p rfl rfl (y_assign rfl) ?_
  refine rw_done ?_
  refine gn_sq ?_
  refine HW_ret rfl ?_
  refine toR (fin hret rfl (.tmp rfl .nil) .one ?_)
  exact ⟨congrArg Value.bool (by simp [List.all_eq_not_any_not]), hm.to⟩

theorem r1_overlap (a b c e : Int) (w0 : World) (h1 : 0 ≤ a ∧ 0 ≤ b ∧ a + b ≤ 9223372036854775807) (h2 : 0 ≤ c ∧ 0 ≤ e ∧ c + e ≤ 9223372036854775807) : C Try.prog 56 [.agg #[.int .i64 a, .int .i64 b], .agg #[.int .i64 c, .int .i64 e]] w0 fun v w' => v = .agg ⟨exV (Pl.overlap a b c e)⟩ ∧ Ext No w0 w' := by
  refine C_of Try.func56 rfl rfl rfl fun κ hret hnorm => ?_
  have hm := Mem.start w0
  refine HW_seq rfl ?_
  refine HW_text (.act 0 (.act 1 (.act 2 .done))) (by kernel_rfl) ?_
  refine a_box rfl rfl rfl rfl hm trivial fun m1 w hg_m1 hm hh => ?_
  refine a_box rfl rfl rfl rfl hm trivial fun m2 w hg_m2 hm hh => ?_
  refine a_alloc rfl rfl z61 hm trivial fun m3 w hg_m3 hm hh => ?_
  refine rw_done ?_
  refine gn_sq ?_
  refine HW_seq rfl ?_
  refine HW_text (.pure 0 (.pure 1 (.pure 2 (.pure 3 (.pure 4 (.pure 5 .done)))))) (by kernel_rfl) ?_
  refine rw_p rfl rfl (y_fieldAddr rfl fo61_0) ?_
  refine rw_p rfl rfl (y_load rfl sc3 (hm.nt 2 rfl) rfl) ?_
  refine rw_p rfl rfl (y_fieldAddr rfl fo61_0) ?_
  refine rw_p rfl rfl (y_load rfl sc3 (hm.nt 1 rfl) rfl) ?_
  refine rw_p rfl rfl (y_max rfl rfl) ?_
  refine rw_p rfl rfl (y_assign rfl) ?_
  refine rw_done ?_
  refine gn_sq ?_
  refine HW_seq rfl ?_
  refine HW_text (.pure 0 (.pure 1 (.pure 2 (.pure 3 (.pure 4 (.pure 5 (.pure 6 (.pure 7 (.pure 8 (.pure 9 (.pure 10 (.pure 11 .done)))))))))))) (by kernel_rfl) ?_
  refine rw_p rfl rfl (y_fieldAddr rfl fo61_0) ?_
  refine rw_p rfl rfl (y_load rfl sc3 (hm.nt 2 rfl) rfl) ?_
  refine rw_p rfl rfl (y_fieldAddr rfl fo61_1) ?_
  refine rw_p rfl rfl (y_load rfl sc3 (hm.nt 2 rfl) rfl) ?_
  refine rw_p rfl rfl (y_add rfl rfl (i64w (by omega) (by omega))) ?_
  refine rw_p rfl rfl (y_fieldAddr rfl fo61_0) ?_
  refine rw_p rfl rfl (y_load rfl sc3 (hm.nt 1 rfl) rfl) ?_
  refine rw_p rfl rfl (y_fieldAddr rfl fo61_1) ?_
  refine rw_p rfl rfl (y_load rfl sc3 (hm.nt 1 rfl) rfl) ?_
  refine rw_p rfl rfl (y_add rfl rfl (i64w (by omega) (by omega))) ?_
  refine rw_p rfl rfl (y_min rfl rfl) ?_
  refine rw_p rfl rfl (y_assign rfl) ?_
  refine rw_done ?_
  refine gn_sq ?_
  refine HW_seq rfl ?_
  refine HW_seq rfl ?_
  refine HW_text (.pure 0 (.pure 1 (.pure 2 .done))) (by kernel_rfl) ?_
  refine rw_p rfl rfl (y_move rfl) ?_
  refine rw_p rfl rfl (y_move rfl) ?_
  refine rw_p rfl rfl (y_ge rfl rfl) ?_
  refine rw_done ?_
  refine gn_sq ?_
  refine HW_cond rfl rfl (fun hc0 => ?_) (fun hc0 => ?_)
  ·
    simp only [Bool.and_eq_true, Bool.or_eq_true, Bool.and_eq_false_iff, Bool.or_eq_false_iff, Bool.not_eq_true', Bool.not_eq_false', decide_eq_true_eq, decide_eq_false_iff_not] at hc0
    refine HW_seq rfl ?_
    refine HW_text (.pure 0 (.act 1 .done)) (by kernel_rfl) ?_
    refine rw_p rfl rfl (y_build (cs := [_, _]) z61 ft61 rfl rfl rfl rfl rfl) ?_
    refine a_store rfl rfl rfl rfl sz61 rfl hm 0 rfl rfl fun w hm => ?_
    refine rw_done ?_
    refine gn_sq ?_
    refine HW_ret rfl ?_
    refine gr_sq ?_
    refine toR (fin hret rfl (.cell rfl (run_loadVar_a (vs := [_, _]) ag61 (hm.get (k := 0) rfl) rfl) .nil) .one ?_)
    exact ⟨by simp only [Pl.overlap, Pl.btw]; rw [if_pos (by omega)]; rfl, hm.to⟩
  ·
    simp only [Bool.and_eq_true, Bool.or_eq_true, Bool.and_eq_false_iff, Bool.or_eq_false_iff, Bool.not_eq_true', Bool.not_eq_false', decide_eq_true_eq, decide_eq_false_iff_not] at hc0
    refine HW_skip rfl ?_
    refine gn_sq ?_
    refine HW_seq rfl ?_
    refine HW_text (.pure 0 (.pure 1 (.pure 2 (.pure 3 (.pure 4 (.act 5 .done)))))) (by kernel_rfl) ?_
    refine rw_p rfl rfl (y_move rfl) ?_
    refine rw_p rfl rfl (y_move rfl) ?_
    refine rw_p rfl rfl (y_move rfl) ?_
    refine rw_p rfl rfl (y_sub rfl rfl (i64w (by omega) (by omega))) ?_
    refine rw_p rfl rfl (y_build (cs := [_, _]) z61 ft61 rfl rfl rfl rfl rfl) ?_
    refine a_store rfl rfl rfl rfl sz61 rfl hm 0 rfl rfl fun w hm => ?_
    refine rw_done ?_
    refine gn_sq ?_
    refine HW_ret rfl ?_
    refine toR (fin hret rfl (.cell rfl (run_loadVar_a (vs := [_, _]) ag61 (hm.get (k := 0) rfl) rfl) .nil) .one ?_)
    exact ⟨by simp only [Pl.overlap, Pl.btw]; rw [if_neg (by omega)]; rfl, hm.to⟩

theorem r1_piece (a b c : Int) (i : Nat) (w0 : World) (h1 : Pl.I64 ((i : Int) * c)) (h2 : Pl.I64 (a + i * c)) (h3 : Pl.I64 (b - i * c)) : C Try.prog 45 [.agg #[.int .i64 a, .int .i64 b], .int .i64 c, .int .i64 i] w0 fun v w' => v = .agg ⟨encE (Pl.piece a b c i)⟩ ∧ Ext No w0 w' := by
  refine C_of Try.func45 rfl rfl rfl fun κ hret hnorm => ?_
  have hm := Mem.start w0
  refine HW_seq rfl ?_
  refine HW_text (.act 0 (.act 1 .done)) (by kernel_rfl) ?_
  refine a_box rfl rfl rfl rfl hm trivial fun m1 w hg_m1 hm hh => ?_
  refine a_alloc rfl rfl z61 hm trivial fun m2 w hg_m2 hm hh => ?_
  refine rw_done ?_
  refine gn_sq ?_
  refine HW_seq rfl ?_
  refine HW_text (.pure 0 (.pure 1 (.pure 2 (.pure 3 (.pure 4 (.pure 5 (.pure 6 (.pure 7 (.pure 8 (.pure 9 (.pure 10 (.pure 11 (.pure 12 (.pure 13 (.pure 14 (.act 15 .done)))))))))))))))) (by kernel_rfl) ?_
  refine rw_p rfl rfl (y_fieldAddr rfl fo61_0) ?_
  refine rw_p rfl rfl (y_load rfl sc3 (hm.nt 1 rfl) rfl) ?_
  refine rw_p rfl rfl (y_move rfl) ?_
  refine rw_p rfl rfl (y_move rfl) ?_
  refine rw_p rfl rfl (y_mul rfl rfl (i64w (by omega) (by omega))) ?_
  refine rw_p rfl rfl (y_add rfl rfl (i64w (by omega) (by omega))) ?_
  refine rw_p rfl rfl (y_move rfl) ?_
  refine rw_p rfl rfl (y_fieldAddr rfl fo61_1) ?_
  refine rw_p rfl rfl (y_load rfl sc3 (hm.nt 1 rfl) rfl) ?_
  refine rw_p rfl rfl (y_move rfl) ?_
  refine rw_p rfl rfl (y_move rfl) ?_
  refine rw_p rfl rfl (y_mul rfl rfl (i64w (by omega) (by omega))) ?_
  refine rw_p rfl rfl (y_sub rfl rfl (i64w (by omega) (by omega))) ?_
  refine rw_p rfl rfl (y_min rfl rfl) ?_
  refine rw_p rfl rfl (y_build (cs := [_, _]) z61 ft61 rfl rfl rfl rfl rfl) ?_
  refine a_store rfl rfl rfl rfl sz61 rfl hm 0 rfl rfl fun w hm => ?_
  refine rw_done ?_
  refine gn_sq ?_
  refine HW_ret rfl ?_
  refine toR (fin hret rfl (.cell rfl (run_loadVar_a (vs := [_, _]) ag61 (hm.get (k := 0) rfl) rfl) .nil) .one ?_)
  exact ⟨rfl, hm.to⟩

end Go.Proofs.Ytcngaknlagocdaa
