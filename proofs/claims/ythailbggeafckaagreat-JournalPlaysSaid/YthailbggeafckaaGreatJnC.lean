/- Contracts of functions of the program: what each returns. Conditions: the hypotheses of each theorem. -/
import Derived.Test.YthailbggeafckaaGreatJn
set_option linter.unusedVariables false
set_option linter.unusedSimpArgs false
namespace Go.Proofs.YthailbggeafckaaGreat
open Go Go.Cx

theorem fo68_2 : fldO Tryz.prog 68 2 = some 4 := by kernel_rfl
theorem fo68_3 : fldO Tryz.prog 68 3 = some 5 := by kernel_rfl
theorem fo68_4 : fldO Tryz.prog 68 4 = some 10 := by kernel_rfl
theorem ft66 : fldT Tryz.prog 66 = some [(0, 1), (1, 1), (2, 1)] := by kernel_rfl
theorem ft68 : fldT Tryz.prog 68 = some [(0, 3), (3, 1), (4, 1), (5, 5), (10, 1)] := by kernel_rfl
theorem go23 : isGo Tryz.prog 23 = true := by kernel_rfl
theorem go28 : isGo Tryz.prog 28 = true := by kernel_rfl
theorem sz33 : szO Tryz.prog 33 = some 1 := by kernel_rfl
theorem z33 : zer Tryz.prog 33 = some [.pointer none] := by kernel_rfl
theorem z66 : zer Tryz.prog 66 = some [.pointer none, .int .i64 0, .int .i64 0] := by kernel_rfl
theorem z68 : zer Tryz.prog 68 = some [.pointer none, .int .i64 0, .int .i64 0, .int .u64 0, .int .u64 0, .int .u64 0, .int .u64 0, .int .i64 0, .int .i64 0, .slice none 0 0, .bool false] := by kernel_rfl
theorem z70 : zer Tryz.prog 70 = some [.slice none 0 0] := by kernel_rfl
theorem go24 : isGo Tryz.prog 24 = true := by kernel_rfl

theorem rdec_len {b : List UInt8} {r : Pl.Rc} (h : Pl.rdec b = some r) : r.bs.length ≤ b.length := by
  unfold Pl.rdec at h
  simp only at h
  split at h
  · cases h
  · split at h
    · cases h
      simp only [List.length_drop, List.length_take]
      omega
    · cases h
theorem Pl.jrecs_len {D : Pl.Dv} (h : Pl.okDv D) {f N : Nat} {r : Pl.Rc} (hr : r ∈ Pl.jrecs D f N) : r.bs.length ≤ 1048576 := by
  unfold Pl.jrecs at hr
  rcases List.mem_append.1 hr with h1 | h1
  · exact Nat.le_trans (rdec_len (Option.mem_toList.1 h1)) (rdB_len h _ _)
  · exact Nat.le_trans (rdec_len (Option.mem_toList.1 h1)) (rdB_len h _ _)
theorem rec_newestC (k : Int) (p : Option Addr) (cap : Nat) (xs : List RcV) (l : List Pl.Rc) (hl : xs.map RcV.rc = l) (w0 : World) (hx : Rd w0 p (xs.flatMap encR)) (hlen : xs.length ≤ 1048576) (hd : ∀ x ∈ xs, Rd w0 x.d.p (x.d.bs.flatMap encB) ∧ x.d.bs.length ≤ 140737488355328) :
    C Tryz.prog 28 [.int .u64 k, .slice p xs.length cap] w0 fun v w' => ∃ q c g b, v = .tuple ⟨[.agg ⟨rcV (Pl.bestC (l.filter fun r => decide (r.id = k))) q (Pl.bestC (l.filter fun r => decide (r.id = k))).bs.length c⟩, .bool (decide (0 < (l.filter fun r => decide (r.id = k)).length))]⟩ ∧ Acc 5 1 q (Pl.bestC (l.filter fun r => decide (r.id = k))).bs.length c ((Pl.bestC (l.filter fun r => decide (r.id = k))).bs.flatMap encB) g b ∧ Mem w0 w' No [(g, b)] := by
  have h := rec_newest k p cap xs w0 hx hlen hd
  have e1 := filt_rc k xs
  have e2 : (xs.filter fun x => decide (x.id = k)).length = (l.filter fun r => decide (r.id = k)).length := by rw [← hl, ← e1, List.length_map]
  rw [hl] at e1
  rw [bestR_rc, e1, e2] at h
  exact h
theorem jcheck0 {D : Pl.Dv} {f N : Nat} {b : Int} (hN : Pl.slot (D.sz : Int) b = (N : Int)) (h0 : N ≠ 0) (h2 : f + 2 * N ≤ D.cnt) : Pl.jcheck D (f : Int) b = 0 := by
  unfold Pl.jcheck
  rw [hN, if_neg (by omega), if_neg (by omega)]

set_option maxHeartbeats 3200000 in
theorem j_open (D : Pl.Dv) (m : Nat) (Z : List (Nat × Blk)) (w0 : World) (hZ : OwnZ w0 Z) (hz : DevZ 107 157 5 D m Z) (f N : Nat) (b : Int) (hb : Pl.I64 b) (hN : Pl.slot (D.sz : Int) b = (N : Int)) (h0 : N ≠ 0) (h2 : f + 2 * N ≤ D.cnt) (k : Int) (hdn : D.dn = false) : C Tryz.prog 7 [.pointer (some ⟨m, 0, none⟩), .int .i64 (f : Int), .int .i64 b, .int .u64 k] w0 fun v w' => ∃ j Zj, v = .tuple ⟨[.pointer (some ⟨j, 0, none⟩), .int .i64 0]⟩ ∧ JZ 68 5 m (f : Int) b k (Pl.jopen D f N k) j Zj ∧ Mem w0 w' No Zj := by
  have hok := hz.ok
  have o1 := hok.sz
  have o4 := hok.max
  have o3 := hok.cnt
  have o5 : D.cnt ≤ D.cnt * D.sz := Nat.le_mul_of_pos_right _ o1
  have o7 : D.sz ≤ D.cnt * D.sz := Nat.le_mul_of_pos_left _ o3
  refine C_of Tryz.func7 rfl rfl rfl fun κ hret hnorm => ?_
  have hm := Mem.start w0
  refine HW_seq rfl ?_
  refine HW_text (.act 0 (.pure 1 (.pure 2 .done))) (by kernel_rfl) ?_
  refine a_box rfl rfl rfl rfl hm trivial fun m1 w hg_m1 hm hh => ?_
  refine rw_p rfl rfl (y_assign rfl) ?_
  refine rw_p rfl rfl (y_assign rfl) ?_
  refine rw_done ?_
  refine gn_sq ?_
  refine HW_seq rfl ?_
  refine HW_text (.pure 0 (.pure 1 (.pure 2 (.pure 3 (.pure 4 (.pure 5 (.act 6 (.act 7 (.act 8 .done))))))))) (by kernel_rfl) ?_
  refine rw_p rfl rfl (y_load rfl sc27 (hm.nt 0 rfl) rfl) ?_
  refine rw_p rfl rfl (y_move rfl) ?_
  refine rw_p rfl rfl (y_move rfl) ?_
  refine rw_p rfl rfl (y_build (cs := [_, _, _]) z66 ft66 rfl rfl rfl rfl rfl) ?_
  refine rw_p rfl rfl (y_move rfl) ?_
  refine rw_p rfl rfl (y_build (cs := [_, _, _, _, _, _, _, _, _, _, _]) z68 ft68 rfl rfl rfl rfl rfl) ?_
  refine a_box rfl rfl rfl rfl hm trivial fun m2 w hg_m2 hm hh => ?_
  refine a_alloc rfl rfl z33 hm trivial fun m3 w hg_m3 hm hh => ?_
  refine a_store rfl rfl rfl rfl sz33 rfl hm 0 rfl rfl fun w hm => ?_
  refine rw_done ?_
  refine gn_sq ?_
  refine HW_seq rfl ?_
  refine HW_seq rfl ?_
  refine HW_text (.pure 0 (.pure 1 (.pure 2 (.pure 3 (.act 4 (.pure 5 .done)))))) (by kernel_rfl) ?_
  refine rw_p rfl rfl (y_load rfl sc33 (hm.nt 0 rfl) rfl) ?_
  refine rw_p rfl rfl (y_nil rfl) ?_
  refine rw_p rfl rfl (y_fieldAddr rfl fo68_0) ?_
  refine rw_p rfl rfl (y_loadA (s := 3) (vs := [_, _, _]) rfl ag66 (hm.nt 1 rfl) rfl) ?_
  refine a_call rfl rfl rfl go23 (C.as (v := .int .i64 0) (jr_check D m Z _ (hZ.ext hm.to) hz (f : Int) b (by simp only [Pl.I64]; omega) hb) (by rw [jcheck0 hN h0 h2])) fun v w hR => ?_
  obtain ⟨rfl, hE⟩ := hR
  refine ⟨trivial, ?_⟩
  replace hm := hm.ext hE
  refine rw_p rfl rfl (y_assign rfl) ?_
  refine rw_done ?_
  refine gn_sq ?_
  refine HW_seq rfl ?_
  refine HW_text (.pure 0 (.pure 1 .done)) (by kernel_rfl) ?_
  refine rw_p rfl rfl (y_move rfl) ?_
  refine rw_p rfl rfl (y_as (c := false) (y_ne rfl rfl) (by decide)) ?_
  refine rw_done ?_
  refine gn_sq ?_
  refine HW_condF rfl rfl rfl ?_
  refine HW_skip rfl ?_
  refine gn_sq ?_
  refine HW_seq rfl ?_
  refine HW_text (.act 0 .done) (by kernel_rfl) ?_
  refine a_alloc rfl rfl z70 hm trivial fun m4 w hg_m4 hm hh => ?_
  replace hm := hm.gapIn
  have ha_s := Acc.nil 57 5 none 0
  refine rw_done ?_
  refine gn_sq ?_
  refine HW_seq rfl ?_
  refine HW_text (.pure 0 (.pure 1 .done)) (by kernel_rfl) ?_
  refine rw_p rfl rfl (y_func rfl rfl) ?_
  refine rw_p rfl rfl (y_assign rfl) ?_
  refine rw_done ?_
  refine gn_sq ?_
  refine HW_seq rfl ?_
  refine HW_seq rfl ?_
  refine HW_text (.pure 0 .done) (by kernel_rfl) ?_
  refine rw_p rfl rfl (y_move rfl) ?_
  refine rw_done ?_
  refine gn_sq ?_
  refine HW_block rfl ?_
  refine HW_loopK (ι := Nat × Ow × List RcV × List (Nat × Blk)) rfl (ks := [3, 10, 12, 13]) (.cons rfl (.cons rfl (.cons rfl (.cons rfl .nil)))) (fun x => [(34, .int .i64 x.1)]) (fun x w => Mem w0 w No ((m4, .row 70 [.slice x.2.1.p x.2.2.1.length x.2.1.cap]) :: (x.2.1.g, x.2.1.b) :: (m3, .row 33 [.pointer (some ⟨m2, 0, none⟩)]) :: (m2, .row 68 [.pointer (some ⟨m, 0, none⟩), .int .i64 (f : Int), .int .i64 b, .int .u64 k, .int .u64 1, .int .u64 0, .int .u64 0, .int .i64 0, .int .i64 0, .slice none 0 0, .bool false]) :: (m1, .row 27 [.pointer (some ⟨m, 0, none⟩)]) :: x.2.2.2) ∧ Acc 57 5 x.2.1.p x.2.2.1.length x.2.1.cap (x.2.2.1.flatMap encR) x.2.1.g x.2.1.b ∧ x.2.2.1.map RcV.rc = Pl.jfst D f N x.1 ∧ (∀ y ∈ x.2.2.1, HRd x.2.2.2 5 y.d) ∧ x.1 ≤ 2) (fun x => 2 - x.1) (0, ⟨none, 0, 0, 0, .gap⟩, [], []) (⟨(hm.pick [1, 0, 2, 3, 4] rfl), ha_s, rfl, by simp, by simp only; omega⟩) ⟨rfl, trivial⟩ (fun x w hM => ?_)
  obtain ⟨hm, ha_s, hxm, hH, hk⟩ := hM
  refine HW_seq rfl ?_
  refine HW_text (.pure 0 .done) (by kernel_rfl) ?_
  refine rw_p rfl rfl (y_lt rfl rfl) ?_
  refine rw_done ?_
  refine gn_sq ?_
  refine HW_seq rfl ?_
  refine HW_cond rfl rfl (fun hc1 => ?_) (fun hc1 => ?_)
  ·
    simp only [decide_eq_true_eq] at hc1
    have hxl9 : x.2.2.1.length ≤ 1000 := by have h9 := congrArg List.length hxm; rw [List.length_map] at h9; have h8 := Pl.jfst_len D f N x.1; omega
    refine HW_skip rfl ?_
    refine gn_sq ?_
    refine HW_seq rfl ?_
    refine HW_block rfl ?_
    refine HW_seq rfl ?_
    refine HW_text (.pure 0 (.pure 1 .done)) (by kernel_rfl) ?_
    refine rw_p rfl rfl (y_move rfl) ?_
    refine rw_p rfl rfl (y_assign rfl) ?_
    refine rw_done ?_
    refine gn_sq ?_
    refine HW_seq rfl ?_
    refine HW_text (.pure 0 (.pure 1 (.act 2 (.pure 3 .done)))) (by kernel_rfl) ?_
    refine rw_p rfl rfl (y_move rfl) ?_
    refine rw_p rfl rfl (y_move rfl) ?_
    refine a_callV rfl rfl rfl rfl go24 (j_open1 D m Z _ (hZ.ext hm.to) hz f N b hb hN k x.1 h2 (by omega) hdn m1 m3 m4 m2 (hm.get (k := 4) rfl) (hm.get (k := 2) rfl) (hm.get (k := 3) rfl) x.2.1.p x.2.1.cap x.2.1.g x.2.1.b x.2.2.1 ha_s (OwnZ.left (A := [_, _]) hm.ownZ) hxl9) fun v w hR => ?_
    obtain ⟨rfl, p_s, cap_s, g_s, b_s, xs_n, B_n, ha_s, hmc, hxm_n, hH_n⟩ := hR
    refine ⟨trivial, ?_⟩
    replace hm := (Mem.callZ (Z := [_, _]) (L := [_, _, _] ++ _) hm hmc).perm bag2
    refine rw_p rfl rfl (y_assign rfl) ?_
    refine rw_done ?_
    refine gn_sq ?_
    refine HW_seq rfl ?_
    refine HW_text (.pure 0 (.pure 1 .done)) (by kernel_rfl) ?_
    refine rw_p rfl rfl (y_move rfl) ?_
    refine rw_p rfl rfl (y_as (c := false) (y_ne rfl rfl) (by decide)) ?_
    refine rw_done ?_
    refine gn_sq ?_
    refine HW_condF rfl rfl rfl ?_
    refine HW_skip rfl ?_
    refine gn_bl ?_
    refine gn_sq ?_
    refine HW_text (.pure 0 (.pure 1 .done)) (by kernel_rfl) ?_
    refine rw_p rfl rfl (y_add rfl rfl (i64w (by omega) (by omega))) ?_
    refine rw_p rfl rfl (y_move rfl) ?_
    refine rw_done ?_
    refine next (x.1 + 1, ⟨p_s, 0, cap_s, g_s, b_s⟩, xs_n, B_n ++ x.2.2.2) (by simp only; omega) ⟨(hm.pickT [0, 1, 2, 3, 4] 5 rfl), ha_s, by rw [hxm_n, hxm, Pl.jfst_next], fun y hy => (hH_n y hy).elim (fun h9 => (hH y h9).mono fun e he => List.mem_append_right _ he) (fun h9 => h9.mono fun e he => List.mem_append_left _ he), by simp only; omega⟩ ⟨nx x.1, rfl, rfl, rfl, rfl, trivial⟩
  ·
    simp only [decide_eq_false_iff_not] at hc1
    obtain ⟨i9, ⟨p_s, n9, cap_s, g_s, b_s⟩, xs, BB⟩ := x
    simp only at hm ha_s hxm hH hk hc1 ⊢
    obtain rfl : i9 = 2 := by omega
    rw [Pl.jfst_two] at hxm
    have hxl : xs.length ≤ 2 := by have h9 := congrArg List.length hxm; rw [List.length_map] at h9; have h8 := Pl.jfst_len D f N 2; rw [Pl.jfst_two] at h8; omega
    have hrd : ∀ y ∈ xs, ∀ u (X : Bs) L, Mem w0 u X L → (∀ e, e ∈ BB → e ∈ L) → Rd u y.d.p (y.d.bs.flatMap encB) := fun y hy u X L h9 h8 => (hH y hy).rd h9 h8
    have hbl : ∀ y ∈ xs, y.d.bs.length ≤ 1048576 := fun y hy => Pl.jrecs_len hz.ok (show y.rc ∈ Pl.jrecs D f N by rw [← hxm]; exact List.mem_map_of_mem hy)
    refine HW_exit rfl ?_
    refine gx_sq (gx_lp ?_)
    refine gx_here ?_
    refine gn_sq ?_
    refine HW_seq rfl ?_
    refine HW_seq rfl ?_
    refine HW_text (.pure 0 (.pure 1 (.pure 2 .done))) (by kernel_rfl) ?_
    refine rw_p rfl rfl (y_load rfl sc70 (hm.nt 0 rfl) rfl) ?_
    refine rw_p rfl rfl (y_len rfl rfl sl70) ?_
    refine rw_p rfl rfl (y_move rfl) ?_
    refine rw_done ?_
    refine gn_sq ?_
    refine HW_block rfl ?_
    refine HW_loopK (ι := Nat × Int) rfl (ks := [3, 10, 12, 44, 45]) (.cons rfl (.cons rfl (.cons rfl (.cons rfl (.cons rfl .nil))))) (fun y => [(46, .int .i64 y.1)]) (fun y w => Mem w0 w No ((m4, .row 70 [.slice p_s xs.length cap_s]) :: (g_s, b_s) :: (m3, .row 33 [.pointer (some ⟨m2, 0, none⟩)]) :: (m2, .row 68 [.pointer (some ⟨m, 0, none⟩), .int .i64 (f : Int), .int .i64 b, .int .u64 k, .int .u64 y.2, .int .u64 0, .int .u64 0, .int .i64 0, .int .i64 0, .slice none 0 0, .bool false]) :: (m1, .row 27 [.pointer (some ⟨m, 0, none⟩)]) :: BB) ∧ y.1 ≤ xs.length ∧ (y.1 = 0 → y.2 = 1) ∧ (y.1 = 1 → ∀ e, xs[0]? = some e → y.2 = IntKind.u64.wrap (e.sq + 1))) (fun y => xs.length - y.1) (0, 1) (⟨(hm.pickT [0, 1, 2, 3, 4] 5 rfl), Nat.zero_le _, fun _ => rfl, fun h9 => absurd h9 (by simp only; omega)⟩) ⟨rfl, trivial⟩ (fun y w hM => ?_)
    obtain ⟨hm, hky, hn0, hn1⟩ := hM
    refine HW_seq rfl ?_
    refine HW_text (.pure 0 .done) (by kernel_rfl) ?_
    refine rw_p rfl rfl (y_lt rfl rfl) ?_
    refine rw_done ?_
    refine gn_sq ?_
    refine HW_seq rfl ?_
    refine HW_cond rfl rfl (fun hc3 => ?_) (fun hc3 => ?_)
    ·
      simp only [decide_eq_true_eq] at hc3
      obtain ⟨e, hi⟩ : ∃ y_, xs[y.1]? = some y_ := ⟨_, List.getElem?_eq_getElem (by omega)⟩
      obtain rfl := ha_s.ptr (by omega)
      refine HW_skip rfl ?_
      refine gn_sq ?_
      refine HW_seq rfl ?_
      refine HW_block rfl ?_
      refine HW_seq rfl ?_
      refine HW_text (.pure 0 (.pure 1 (.pure 2 (.act 3 (.pure 4 (.act 5 .done)))))) (by kernel_rfl) ?_
      refine rw_p rfl rfl (y_move rfl) ?_
      refine rw_p rfl rfl (y_index rfl rfl sl70 rfl (by omega) (by omega)) ?_
      refine rw_p rfl rfl (y_elA rfl ag57 (ha_s.rd hm 1 rfl).nt encR_len hi) ?_
      refine a_alloc rfl rfl z57 hm trivial fun m5 w hg_m5 hm hh => ?_
      refine rw_p rfl rfl (y_assign rfl) ?_
      refine a_store rfl rfl rfl rfl sz57 rfl hm 0 rfl rfl fun w hm => ?_
      refine rw_done ?_
      refine gn_sq ?_
      refine HW_seq rfl ?_
      by_cases hy0 : y.1 = 0
      ·
        refine HW_draw (.pure 0 (.pure 1 (.pure 2 (.pure 3 (.pure 4 (.pure 5 (.pure 6 (.pure 7 (.pure 8 (.pure 9 (.pure 10 .done))))))))))) No mix (by kernel_rfl) hm fun w hw hm0 hh => ?_
        have hm := hm0
        refine rw_p rfl rfl (y_move rfl) ?_
        refine rw_p rfl rfl (y_as (c := true) (y_eq rfl rfl) (decide_eq_true (by omega))) ?_
        refine rw_p rfl rfl (y_move rfl) ?_
        refine rw_gf rfl rfl (by decide) rfl ?_
        refine rw_gf rfl rfl (by decide) rfl ?_
        refine rw_gf rfl rfl (by decide) rfl ?_
        refine rw_gf rfl rfl (by decide) rfl ?_
        refine rw_gf rfl rfl (by decide) rfl ?_
        refine rw_gf rfl rfl (by decide) rfl ?_
        refine rw_gf rfl rfl (by decide) rfl ?_
        refine rw_p rfl rfl (y_pickT rfl rfl) ?_
        refine rw_done ?_
        refine gn_sq ?_
        refine HW_condT rfl rfl rfl ?_
        refine HW_text (.pure 0 (.pure 1 (.pure 2 (.pure 3 (.pure 4 (.pure 5 (.act 6 .done))))))) (by kernel_rfl) ?_
        refine rw_p rfl rfl (y_load rfl sc33 (hm.nt 3 rfl) rfl) ?_
        refine rw_p rfl rfl (y_fieldAddr rfl fo57_0) ?_
        refine rw_p rfl rfl (y_load rfl sc23 (hm.nt 0 rfl) rfl) ?_
        refine rw_p rfl rfl (y_add rfl rfl rfl) ?_
        refine rw_p rfl rfl (y_nil rfl) ?_
        refine rw_p rfl rfl (y_fieldAddr rfl fo68_2) ?_
        refine a_store rfl rfl rfl rfl sz23 rfl hm 4 rfl rfl fun w hm => ?_
        refine rw_done ?_
        refine gn_bl ?_
        refine gn_sq ?_
        refine HW_text (.pure 0 (.pure 1 .done)) (by kernel_rfl) ?_
        refine rw_p rfl rfl (y_add rfl rfl (i64w (by omega) (by omega))) ?_
        refine rw_p rfl rfl (y_move rfl) ?_
        refine rw_done ?_
        refine next (y.1 + 1, _) (by simp only; omega) ⟨(hm.pickT [1, 2, 3, 4, 5] 6 rfl), by simp only; omega, fun h9 => absurd h9 (by simp only; omega), fun h9 e9 he9 => ?_⟩ ⟨nx y.1, rfl, rfl, rfl, rfl, rfl, trivial⟩
        first
        | (exfalso; simp only at h9; omega)
        | (rw [hy0] at hi; rw [hi] at he9; cases he9; rfl)
      ·
        refine HW_draw (.pure 0 (.pure 1 (.pure 2 (.pure 3 (.pure 4 (.pure 5 (.pure 6 (.pure 7 (.pure 8 (.pure 9 (.pure 10 .done))))))))))) No mix (by kernel_rfl) hm fun w hw hm0 hh => ?_
        have hm := hm0
        refine rw_p rfl rfl (y_move rfl) ?_
        refine rw_p rfl rfl (y_as (c := false) (y_eq rfl rfl) (decide_eq_false (by omega))) ?_
        refine rw_p rfl rfl (y_move rfl) ?_
        refine rw_p rfl rfl (y_fieldAddr rfl fo57_0) ?_
        refine rw_p rfl rfl (y_load rfl sc23 (hm0.nd 0 rfl id) rfl) ?_
        refine rw_p rfl rfl (y_load rfl sc33 (hm0.nd 3 rfl id) rfl) ?_
        refine rw_p rfl rfl (y_nil rfl) ?_
        refine rw_p rfl rfl (y_fieldAddr rfl fo68_2) ?_
        refine rw_p rfl rfl (y_load rfl sc23 (hm0.nd 4 rfl id) rfl) ?_
        refine rw_p rfl rfl (y_ge rfl rfl) ?_
        refine rw_p rfl rfl (y_pickF rfl rfl) ?_
        refine rw_done ?_
        refine gn_sq ?_
        refine HW_cond rfl rfl (fun hc4 => ?_) (fun hc4 => ?_)
        ·
          refine HW_text (.pure 0 (.pure 1 (.pure 2 (.pure 3 (.pure 4 (.pure 5 (.act 6 .done))))))) (by kernel_rfl) ?_
          refine rw_p rfl rfl (y_load rfl sc33 (hm.nt 3 rfl) rfl) ?_
          refine rw_p rfl rfl (y_fieldAddr rfl fo57_0) ?_
          refine rw_p rfl rfl (y_load rfl sc23 (hm.nt 0 rfl) rfl) ?_
          refine rw_p rfl rfl (y_add rfl rfl rfl) ?_
          refine rw_p rfl rfl (y_nil rfl) ?_
          refine rw_p rfl rfl (y_fieldAddr rfl fo68_2) ?_
          refine a_store rfl rfl rfl rfl sz23 rfl hm 4 rfl rfl fun w hm => ?_
          refine rw_done ?_
          refine gn_bl ?_
          refine gn_sq ?_
          refine HW_text (.pure 0 (.pure 1 .done)) (by kernel_rfl) ?_
          refine rw_p rfl rfl (y_add rfl rfl (i64w (by omega) (by omega))) ?_
          refine rw_p rfl rfl (y_move rfl) ?_
          refine rw_done ?_
          refine next (y.1 + 1, _) (by simp only; omega) ⟨(hm.pickT [1, 2, 3, 4, 5] 6 rfl), by simp only; omega, fun h9 => absurd h9 (by simp only; omega), fun h9 e9 he9 => ?_⟩ ⟨nx y.1, rfl, rfl, rfl, rfl, rfl, trivial⟩
          first
          | (exfalso; simp only at h9; omega)
          | (rw [hy0] at hi; rw [hi] at he9; cases he9; rfl)
        ·
          refine HW_skip rfl ?_
          refine gn_bl ?_
          refine gn_sq ?_
          refine HW_text (.pure 0 (.pure 1 .done)) (by kernel_rfl) ?_
          refine rw_p rfl rfl (y_add rfl rfl (i64w (by omega) (by omega))) ?_
          refine rw_p rfl rfl (y_move rfl) ?_
          refine rw_done ?_
          refine next (y.1 + 1, _) (by simp only; omega) ⟨(hm.pickT [1, 2, 3, 4, 5] 6 rfl), by simp only; omega, fun h9 => absurd h9 (by simp only; omega), fun h9 e9 he9 => ?_⟩ ⟨nx y.1, rfl, rfl, rfl, rfl, rfl, trivial⟩
          first
          | (exfalso; simp only at h9; omega)
          | (rw [hy0] at hi; rw [hi] at he9; cases he9; rfl)
    ·
      simp only [decide_eq_false_iff_not] at hc3
      have hye : y.1 = xs.length := by omega
      refine HW_exit rfl ?_
      refine gx_sq (gx_lp ?_)
      refine gx_here ?_
      refine gn_sq ?_
      refine HW_seq rfl ?_
      refine HW_seq rfl ?_
      refine HW_text (.pure 0 (.pure 1 (.pure 2 .done))) (by kernel_rfl) ?_
      refine rw_p rfl rfl (y_load rfl sc70 (hm.nt 0 rfl) rfl) ?_
      refine rw_p rfl rfl (y_len rfl rfl sl70) ?_
      refine rw_p rfl rfl (y_eq rfl rfl) ?_
      refine rw_done ?_
      refine gn_sq ?_
      refine HW_cond rfl rfl (fun hc5 => ?_) (fun hc5 => ?_)
      ·
        simp only [decide_eq_true_eq] at hc5
        obtain ⟨e0, e1, rfl⟩ : ∃ a b, xs = [a, b] := by match xs, hc5 with | [a, b], _ => exact ⟨a, b, rfl⟩
        obtain rfl := ha_s.ptr (by simp)
        have hi0 : [e0, e1][0]? = some e0 := rfl
        have hi1 : [e0, e1][1]? = some e1 := rfl
        refine HW_draw (.pure 0 (.pure 1 (.pure 2 (.pure 3 (.pure 4 (.pure 5 (.pure 6 (.pure 7 (.pure 8 (.pure 9 (.pure 10 (.cut (.pure 11 (.pure 12 (.act 13 .done))))))))))))))) No mix (by kernel_rfl) hm fun w hw hm0 hh => ?_
        have hm := hm0
        refine rw_p rfl rfl (y_load rfl sc33 (hm0.nd 2 rfl id) rfl) ?_
        refine rw_p rfl rfl (y_load rfl sc70 (hm0.nd 0 rfl id) rfl) ?_
        refine rw_p rfl rfl (y_index rfl rfl sl70 rfl (by decide) (by simp)) ?_
        refine rw_p rfl rfl (y_fieldAddr rfl fo57_0) ?_
        refine rw_p rfl rfl (y_elS rfl sc23 (ha_s.rd hm0 1 rfl).nd encR_len hi0 rfl) ?_
        refine rw_p rfl rfl (y_load rfl sc70 (hm0.nd 0 rfl id) rfl) ?_
        refine rw_p rfl rfl (y_index rfl rfl sl70 rfl (by decide) (by simp)) ?_
        refine rw_p rfl rfl (y_fieldAddr rfl fo57_0) ?_
        refine rw_p rfl rfl (y_elS rfl sc23 (ha_s.rd hm0 1 rfl).nd encR_len hi1 rfl) ?_
        refine rw_p rfl rfl (y_max rfl rfl) ?_
        refine rw_p rfl rfl (y_add rfl rfl rfl) ?_
        refine a_cut ?_
        refine rw_p rfl rfl (y_nil rfl) ?_
        refine rw_p rfl rfl (y_fieldAddr rfl fo68_2) ?_
        refine a_store rfl rfl rfl rfl sz23 rfl hm 3 rfl rfl fun w hm => ?_
        rw [show IntKind.u64.wrap (max e0.sq e1.sq + 1) = Pl.jnext (Pl.jrecs D f N) by rw [← hxm]; rfl] at hm
        refine rw_done ?_
        refine gn_sq ?_
        refine HW_seq rfl ?_
        refine HW_draw (.pure 0 (.pure 1 (.pure 2 (.pure 3 (.act 4 (.pure 5 (.pure 6 (.pure 7 (.pure 8 (.pure 9 (.act 10 (.pure 11 (.pure 12 (.act 13 .done)))))))))))))) (fun j => j = m2) mix (by kernel_rfl) hm fun w hw hm0 hh => ?_
        have hm := hm0
        refine rw_p rfl rfl (y_load rfl sc33 (hm0.nd 2 rfl (hm0.ne 2 3 rfl rfl rfl)) rfl) ?_
        refine rw_p rfl rfl (y_load rfl sc33 (hm0.nd 2 rfl (hm0.ne 2 3 rfl rfl rfl)) rfl) ?_
        refine rw_p rfl rfl (y_move rfl) ?_
        refine rw_p rfl rfl (y_load rfl sc70 (hm0.nd 0 rfl (hm0.ne 0 3 rfl rfl rfl)) rfl) ?_
        refine a_call rfl rfl rfl go28 (rec_newestC k _ _ _ (Pl.jrecs D f N) hxm _ (ha_s.rd hm 1 rfl) (Nat.le_trans hxl (by decide)) (fun y hy => ⟨hrd y hy _ _ _ hm (fun e he => by simp [setB, he]), Nat.le_trans (hbl y hy) (by decide)⟩)) fun v w hR => ?_
        obtain ⟨p_z, cap_z, g_z, b_z, rfl, ha_z, hmc⟩ := hR
        refine ⟨hh.ext hmc.to, ?_⟩
        have hg_z : b_z.real = true → _ := fun hr => (hmc.fresh _ List.mem_cons_self hr).resolve_left id
        replace hh := hh.ext hmc.to
        replace hm := hm.callN hmc
        refine rw_p rfl rfl (y_move rfl) ?_
        refine rw_p rfl rfl (y_extract rfl rfl) ?_
        refine rw_p rfl rfl (y_extract rfl rfl) ?_
        refine rw_p rfl rfl (y_nil rfl) ?_
        refine rw_p rfl rfl (y_fieldAddr rfl fo68_3) ?_
        refine a_storeN rfl rfl rfl rfl sz57 rfl hm 4 rfl rfl hh (.inr rfl) fun w hm hh => ?_
        refine rw_p rfl rfl (y_nil rfl) ?_
        refine rw_p rfl rfl (y_fieldAddr rfl fo68_4) ?_
        refine a_storeN rfl rfl rfl rfl sz4 rfl hm 4 rfl rfl hh (.inr rfl) fun w hm hh => ?_
        refine rw_done ?_
        refine gn_sq ?_
        refine HW_seq rfl ?_
        refine HW_text (.pure 0 (.pure 1 (.pure 2 .done))) (by kernel_rfl) ?_
        refine rw_p rfl rfl (y_load rfl sc33 (hm.nt 3 rfl) rfl) ?_
        refine rw_p rfl rfl (y_assign rfl) ?_
        refine rw_p rfl rfl (y_assign rfl) ?_
        refine rw_done ?_
        refine gn_sq ?_
        refine HW_ret rfl ?_
        refine toR (fin hret rfl (.tmp rfl (.tmp rfl .nil)) .more ?_)
        exact ⟨m2, [_, (g_z, b_z)], rfl, ⟨p_z, cap_z, g_z, b_z, rfl, ha_z⟩, (hm.pick [4, 0] rfl)⟩
      ·
        simp only [decide_eq_false_iff_not] at hc5
        have hnx : y.2 = Pl.jnext (Pl.jrecs D f N) := by
          rw [← hxm]
          match xs, hye, hn0, hn1, hxl, hc5 with
          | [], hye, hn0, hn1, _, _ => exact hn0 hye
          | [e0], hye, hn0, hn1, _, _ => exact hn1 hye e0 rfl
          | [_, _], _, _, _, _, h9 => exact absurd rfl h9
          | _ :: _ :: _ :: _, _, _, _, h9, _ => simp only [List.length_cons] at h9; omega
        rw [hnx] at hm
        refine HW_skip rfl ?_
        refine gn_sq ?_
        refine HW_seq rfl ?_
        refine HW_draw (.pure 0 (.pure 1 (.pure 2 (.pure 3 (.act 4 (.pure 5 (.pure 6 (.pure 7 (.pure 8 (.pure 9 (.act 10 (.pure 11 (.pure 12 (.act 13 .done)))))))))))))) (fun j => j = m2) mix (by kernel_rfl) hm fun w hw hm0 hh => ?_
        have hm := hm0
        refine rw_p rfl rfl (y_load rfl sc33 (hm0.nd 2 rfl (hm0.ne 2 3 rfl rfl rfl)) rfl) ?_
        refine rw_p rfl rfl (y_load rfl sc33 (hm0.nd 2 rfl (hm0.ne 2 3 rfl rfl rfl)) rfl) ?_
        refine rw_p rfl rfl (y_move rfl) ?_
        refine rw_p rfl rfl (y_load rfl sc70 (hm0.nd 0 rfl (hm0.ne 0 3 rfl rfl rfl)) rfl) ?_
        refine a_call rfl rfl rfl go28 (rec_newestC k _ _ _ (Pl.jrecs D f N) hxm _ (ha_s.rd hm 1 rfl) (Nat.le_trans hxl (by decide)) (fun y hy => ⟨hrd y hy _ _ _ hm (fun e he => by simp [setB, he]), Nat.le_trans (hbl y hy) (by decide)⟩)) fun v w hR => ?_
        obtain ⟨p_z, cap_z, g_z, b_z, rfl, ha_z, hmc⟩ := hR
        refine ⟨hh.ext hmc.to, ?_⟩
        have hg_z : b_z.real = true → _ := fun hr => (hmc.fresh _ List.mem_cons_self hr).resolve_left id
        replace hh := hh.ext hmc.to
        replace hm := hm.callN hmc
        refine rw_p rfl rfl (y_move rfl) ?_
        refine rw_p rfl rfl (y_extract rfl rfl) ?_
        refine rw_p rfl rfl (y_extract rfl rfl) ?_
        refine rw_p rfl rfl (y_nil rfl) ?_
        refine rw_p rfl rfl (y_fieldAddr rfl fo68_3) ?_
        refine a_storeN rfl rfl rfl rfl sz57 rfl hm 4 rfl rfl hh (.inr rfl) fun w hm hh => ?_
        refine rw_p rfl rfl (y_nil rfl) ?_
        refine rw_p rfl rfl (y_fieldAddr rfl fo68_4) ?_
        refine a_storeN rfl rfl rfl rfl sz4 rfl hm 4 rfl rfl hh (.inr rfl) fun w hm hh => ?_
        refine rw_done ?_
        refine gn_sq ?_
        refine HW_seq rfl ?_
        refine HW_text (.pure 0 (.pure 1 (.pure 2 .done))) (by kernel_rfl) ?_
        refine rw_p rfl rfl (y_load rfl sc33 (hm.nt 3 rfl) rfl) ?_
        refine rw_p rfl rfl (y_assign rfl) ?_
        refine rw_p rfl rfl (y_assign rfl) ?_
        refine rw_done ?_
        refine gn_sq ?_
        refine HW_ret rfl ?_
        refine toR (fin hret rfl (.tmp rfl (.tmp rfl .nil)) .more ?_)
        exact ⟨m2, [_, (g_z, b_z)], rfl, ⟨p_z, cap_z, g_z, b_z, rfl, ha_z⟩, (hm.pick [4, 0] rfl)⟩

end Go.Proofs.YthailbggeafckaaGreat
