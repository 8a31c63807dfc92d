/- Contracts of functions of the program: what each returns. Conditions: the hypotheses of each theorem. -/
import Derived.Test.YthailbggeafckaaGreatJp
set_option linter.unusedVariables false
set_option linter.unusedSimpArgs false
namespace Go.Proofs.YthailbggeafckaaGreat
open Go Go.Cx

theorem fo80_4 : fldO Tryz.prog 80 4 = some 4 := by kernel_rfl
theorem fo80_5 : fldO Tryz.prog 80 5 = some 5 := by kernel_rfl
theorem fo80_6 : fldO Tryz.prog 80 6 = some 6 := by kernel_rfl
theorem ft80 : fldT Tryz.prog 80 = some [(0, 1), (1, 1), (2, 1), (3, 1), (4, 1), (5, 1), (6, 5)] := by kernel_rfl
theorem go30 : isGo Tryz.prog 30 = true := by kernel_rfl
theorem go31 : isGo Tryz.prog 31 = true := by kernel_rfl
theorem go32 : isGo Tryz.prog 32 = true := by kernel_rfl
theorem go33 : isGo Tryz.prog 33 = true := by kernel_rfl
theorem z80 : zer Tryz.prog 80 = some [.pointer none, .int .i64 0, .int .i64 0, .int .u64 0, .int .u64 0, .bool false, .int .u64 0, .int .u64 0, .int .i64 0, .int .i64 0, .slice none 0 0] := by kernel_rfl

theorem bestR_snoc {F : List RcV} (e : RcV) (h : F ≠ []) : bestR (F ++ [e]) = if (bestR F).sq < e.sq then e else bestR F := by
  cases F with
  | nil => exact absurd rfl h
  | cons x r =>
    rw [List.cons_append]
    simp only [bestR, List.foldl_append, List.foldl_cons, List.foldl_nil]
    rfl
/-- the reference's place holds the best of the records with the number -/
theorem newI_best (k : Int) (xs : List RcV) : ∀ i, i ≤ xs.length → ((newI k (xs.take i)).1 = -1 ∧ (xs.take i).filter (fun x => decide (x.id = k)) = []) ∨
    ∃ j : Nat, (newI k (xs.take i)).1 = (j : Int) ∧ (xs.take i).filter (fun x => decide (x.id = k)) ≠ [] ∧ xs[j]? = some (bestR ((xs.take i).filter (fun x => decide (x.id = k)))) ∧ (newI k (xs.take i)).2 = (bestR ((xs.take i).filter (fun x => decide (x.id = k)))).sq
  | 0, _ => .inl ⟨rfl, rfl⟩
  | i + 1, h => by
    obtain ⟨e, he⟩ : ∃ e, xs[i]? = some e := ⟨_, List.getElem?_eq_getElem (by omega)⟩
    have ih := newI_best k xs i (by omega)
    rw [newI_next he, List.take_add_one, he, Option.toList, List.filter_append]
    by_cases hid : e.id = k
    · rw [List.filter_cons_of_pos (by simpa using hid), List.filter_nil]
      rcases ih with ⟨h1, h2⟩ | ⟨j, h1, h2, h3, h4⟩
      · rw [if_pos ⟨hid, .inl (by omega)⟩, h2]
        exact .inr ⟨i, rfl, by simp, he, rfl⟩
      · rw [bestR_snoc e h2]
        by_cases hlt : (bestR ((xs.take i).filter (fun x => decide (x.id = k)))).sq < e.sq
        · rw [if_pos ⟨hid, .inr (by rw [h4]; exact hlt)⟩, if_pos hlt]
          exact .inr ⟨i, rfl, by simp, he, rfl⟩
        · rw [if_neg (fun h9 => h9.2.elim (fun h8 => by omega) (fun h8 => hlt (by rw [← h4]; exact h8))), if_neg hlt]
          exact .inr ⟨j, h1, by simp, h3, h4⟩
    · rw [if_neg (fun h9 => hid h9.1), List.filter_cons_of_neg (by simpa using hid), List.filter_nil, List.append_nil]
      exact ih
theorem new_same (k : Int) (xs : List RcV) : newR k xs = bestR (xs.filter fun x => decide (x.id = k)) ∧ decide (0 ≤ (newI k xs).1) = decide (0 < (xs.filter fun x => decide (x.id = k)).length) := by
  have h := newI_best k xs xs.length (Nat.le_refl _)
  rw [List.take_length] at h
  rcases h with ⟨h1, h2⟩ | ⟨j, h1, h2, h3, h4⟩
  · rw [h2]
    unfold newR
    rw [if_pos (by omega), h1]
    exact ⟨rfl, rfl⟩
  · refine ⟨?_, ?_⟩
    · unfold newR
      rw [if_neg (by omega), h1, Int.toNat_natCast, List.getD_eq_getElem?_getD, h3]
      rfl
    · rw [decide_eq_true (by omega), decide_eq_true (List.length_pos_iff.2 h2)]

theorem bagD {d s a : Nat × Blk} {B : List (Nat × Blk)} : (d :: s :: a :: B).Perm (s :: a :: (B ++ [d])) := by
  have : (d :: (s :: a :: B)).Perm ((s :: a :: B) ++ [d]) := (List.perm_append_comm (l₁ := [d]) (l₂ := s :: a :: B))
  exact this

set_option maxHeartbeats 3200000 in
theorem r22_open (D : Pl.Dv) (m : Nat) (Z : List (Nat × Blk)) (w0 : World) (hZ : OwnZ w0 Z) (hz : RefZ 50 172 5 D m Z) (f N : Nat) (b : Int) (hb : Pl.I64 b) (hN : Pl.slot (D.sz : Int) b = (N : Int)) (h0 : N ≠ 0) (h2 : f + 2 * N ≤ D.cnt) (k : Int) (hdn : D.dn = false) (hcl : D.ca.length ≤ 1000000000) : C Tryz.prog 9 [.pointer (some ⟨m, 0, none⟩), .int .i64 (f : Int), .int .i64 b, .int .u64 k] w0 fun v w' => ∃ j q c B, v = .tuple ⟨[.pointer (some ⟨j, 0, none⟩), .int .i64 0]⟩ ∧ Mem w0 w' No ((j, .row 80 (rjrow (.pointer (some ⟨m, 0, none⟩)) (f : Int) b k (Pl.jopen D f N k) q c)) :: B) ∧ RdX B 5 q c (Pl.jopen D f N k).la.bs := by
  have hok := hz.ok
  have o1 := hok.sz
  have o4 := hok.max
  have o3 := hok.cnt
  have o7 : D.sz ≤ D.cnt * D.sz := Nat.le_mul_of_pos_left _ o3
  refine C_of Tryz.func9 rfl rfl rfl fun κ hret hnorm => ?_
  have hm := Mem.start w0
  refine HW_seq rfl ?_
  refine HW_text (.pure 0 (.pure 1 .done)) (by kernel_rfl) ?_
  refine rw_p rfl rfl (y_assign rfl) ?_
  refine rw_p rfl rfl (y_assign rfl) ?_
  refine rw_done ?_
  refine gn_sq ?_
  refine HW_seq rfl ?_
  refine HW_text (.pure 0 (.pure 1 (.pure 2 (.pure 3 (.pure 4 (.act 5 (.pure 6 .done))))))) (by kernel_rfl) ?_
  refine rw_p rfl rfl (y_move rfl) ?_
  refine rw_p rfl rfl (y_move rfl) ?_
  refine rw_p rfl rfl (y_move rfl) ?_
  refine rw_p rfl rfl (y_move rfl) ?_
  refine rw_p rfl rfl (y_build (cs := [_, _, _, _, _, _, _, _, _, _, _]) z80 ft80 rfl rfl rfl rfl rfl) ?_
  refine a_box rfl rfl rfl rfl hm trivial fun m1 w hg_m1 hm hh => ?_
  refine rw_p rfl rfl (y_assign rfl) ?_
  refine rw_done ?_
  refine gn_sq ?_
  refine HW_seq rfl ?_
  refine HW_text (.pure 0 .done) (by kernel_rfl) ?_
  refine rw_p rfl rfl (y_assign rfl) ?_
  replace hm := hm.gapIn
  have ha_s := Acc.nil 78 5 none 0
  refine rw_done ?_
  refine gn_sq ?_
  refine HW_seq rfl ?_
  refine HW_text (.pure 0 .done) (by kernel_rfl) ?_
  refine rw_p rfl rfl (y_assign rfl) ?_
  refine rw_done ?_
  refine gn_sq ?_
  refine HW_seq rfl ?_
  refine HW_seq rfl ?_
  refine HW_text (.pure 0 .done) (by kernel_rfl) ?_
  refine rw_p rfl rfl (y_assign rfl) ?_
  refine rw_done ?_
  refine gn_sq ?_
  refine HW_block rfl ?_
  refine HW_loopK (ι := Nat × Ow × List RcV × Int × List (Nat × Blk)) rfl (ks := [0, 1, 2, 3, 10]) (.cons rfl (.cons rfl (.cons rfl (.cons rfl (.cons rfl .nil))))) (fun x => [(13, .int .i64 x.1), (11, .slice x.2.1.p x.2.2.1.length x.2.1.cap), (12, .int .u64 x.2.2.2.1)]) (fun x w => Mem w0 w No ((x.2.1.g, x.2.1.b) :: (m1, .row 80 [.pointer (some ⟨m, 0, none⟩), .int .i64 (f : Int), .int .i64 b, .int .u64 k, .int .u64 (Pl.jnext (x.2.2.1.map RcV.rc)), .bool false, .int .u64 0, .int .u64 0, .int .i64 0, .int .i64 0, .slice none 0 0]) :: x.2.2.2.2) ∧ Acc 78 5 x.2.1.p x.2.2.1.length x.2.1.cap (x.2.2.1.flatMap encR) x.2.1.g x.2.1.b ∧ x.2.2.1.map RcV.rc = Pl.jfst D f N x.1 ∧ (∀ y ∈ x.2.2.1, RdX x.2.2.2.2 5 y.d.p y.d.cap y.d.bs) ∧ x.1 ≤ 2 ∧ x.2.2.2.1 = jtop (x.2.2.1.map RcV.rc)) (fun x => 2 - x.1) (0, ⟨none, 0, 0, 0, .gap⟩, [], 0, []) (⟨(hm.pick [0, 1] rfl), ha_s, rfl, by simp, by simp only; omega, rfl⟩) ⟨rfl, rfl, rfl, trivial⟩ (fun x w hM => ?_)
  obtain ⟨hm, ha_s, hxm, hH, hk, htp⟩ := hM
  refine HW_seq rfl ?_
  refine HW_seq rfl ?_
  refine HW_text (.pure 0 (.pure 1 .done)) (by kernel_rfl) ?_
  refine rw_p rfl rfl (y_move rfl) ?_
  refine rw_p rfl rfl (y_lt rfl rfl) ?_
  refine rw_done ?_
  refine gn_sq ?_
  refine HW_cond rfl rfl (fun hc0 => ?_) (fun hc0 => ?_)
  ·
    simp only [decide_eq_true_eq] at hc0
    have hx2 : x.1 < 2 := by omega
    have hrc : Pl.rdCode D ((Pl.jat D f N x.1 : Nat) : Int) ((N * D.sz : Nat) : Int) = 0 := Pl.jcode hok hdn h2 hx2
    have hjl := Pl.jat_le h2 hx2
    have hxl : x.2.2.1.length ≤ 1 := by have h9 := congrArg List.length hxm; rw [List.length_map] at h9; have h8 := Pl.jfst_len D f N x.1; omega
    refine HW_skip rfl ?_
    refine gn_sq ?_
    refine HW_seq rfl ?_
    refine HW_block rfl ?_
    refine HW_seq rfl ?_
    refine HW_text (.pure 0 (.pure 1 (.pure 2 (.pure 3 (.pure 4 (.act 5 (.act 6 (.pure 7 (.pure 8 (.pure 9 (.pure 10 (.pure 11 .done)))))))))))) (by kernel_rfl) ?_
    refine rw_p rfl rfl (y_move rfl) ?_
    refine rw_p rfl rfl (y_move rfl) ?_
    refine rw_p rfl rfl (y_move rfl) ?_
    refine rw_p rfl rfl (y_move rfl) ?_
    refine rw_p rfl rfl (y_move rfl) ?_
    refine a_call rfl rfl rfl go31 (r22_slotB D m Z _ (hZ.ext hm.to) hz f N b hb hN x.1 h2 hx2) fun v w hR => ?_
    obtain ⟨rfl, hE⟩ := hR
    refine ⟨trivial, ?_⟩
    replace hm := hm.ext hE
    refine a_call rfl rfl rfl go30 (r20_readS D m Z _ (hZ.ext hm.to) hz ((Pl.jat D f N x.1 : Nat) : Int) ((N * D.sz : Nat) : Int) (by simp only [Pl.I64]; omega) (by simp only [Pl.I64]; omega) hcl) fun v w hR => ?_
    obtain ⟨p_t, cap_t, rfl, hR_t, hl_t, hs_t, hE⟩ := hR
    refine ⟨trivial, ?_⟩
    replace hm := hm.ext hE
    rw [hrc]
    refine rw_p rfl rfl (y_move rfl) ?_
    refine rw_p rfl rfl (y_extract rfl rfl) ?_
    refine rw_p rfl rfl (y_extract rfl rfl) ?_
    refine rw_p rfl rfl (y_assign rfl) ?_
    refine rw_p rfl rfl (y_assign rfl) ?_
    refine rw_done ?_
    refine gn_sq ?_
    refine HW_seq rfl ?_
    refine HW_seq rfl ?_
    refine HW_text (.pure 0 (.pure 1 .done)) (by kernel_rfl) ?_
    refine rw_p rfl rfl (y_move rfl) ?_
    refine rw_p rfl rfl (y_as (c := false) (y_ne rfl rfl) (by decide)) ?_
    refine rw_done ?_
    refine gn_sq ?_
    refine HW_condF rfl rfl rfl ?_
    refine HW_skip rfl ?_
    refine gn_sq ?_
    refine HW_seq rfl ?_
    cases hr : Pl.jrec D f N x.1
    ·
      refine HW_text (.pure 0 (.act 1 (.pure 2 (.pure 3 (.pure 4 (.act 5 (.act 6 (.pure 7 .done)))))))) (by kernel_rfl) ?_
      refine rw_p rfl rfl (y_move rfl) ?_
      refine a_call rfl rfl rfl go32 (r21_decode p_t cap_t (Pl.rdB D ((Pl.jat D f N x.1 : Nat) : Int) ((N * D.sz : Nat) : Int)) _ hR_t hl_t hs_t (Nat.le_trans (rdB_len hok _ _) (by decide))) fun v w hR => ?_
      obtain ⟨p_d, cap_d, g_d, b_d, rfl, ha_d, hmc⟩ := hR
      refine ⟨trivial, ?_⟩
      have hg_d : b_d.real = true → _ := fun hr => (hmc.fresh _ List.mem_cons_self hr).resolve_left id
      replace hm := hm.callN hmc
      rw [show Pl.rdec (Pl.rdB D ((Pl.jat D f N x.1 : Nat) : Int) ((N * D.sz : Nat) : Int)) = none from hr] at ha_d ⊢
      simp only [Option.getD_none, Option.isSome_none] at ha_d ⊢
      refine rw_p rfl rfl (y_move rfl) ?_
      refine rw_p rfl rfl (y_extract rfl rfl) ?_
      refine rw_p rfl rfl (y_extract rfl rfl) ?_
      refine a_alloc rfl rfl z78 hm trivial fun m2 w hg_m2 hm hh => ?_
      refine a_store rfl rfl rfl rfl sz78 rfl hm 0 rfl rfl fun w hm => ?_
      refine rw_p rfl rfl (y_assign rfl) ?_
      refine rw_done ?_
      refine gn_sq ?_
      refine HW_seq rfl ?_
      refine HW_seq rfl ?_
      refine HW_text (.pure 0 (.pure 1 .done)) (by kernel_rfl) ?_
      refine rw_p rfl rfl (y_move rfl) ?_
      refine rw_p rfl rfl (y_not rfl) ?_
      refine rw_done ?_
      refine gn_sq ?_
      refine HW_condT rfl rfl rfl ?_
      refine HW_exit rfl ?_
      refine gx_sq ?_
      refine gx_here ?_
      refine gn_sq ?_
      refine HW_text (.pure 0 (.pure 1 (.pure 2 .done))) (by kernel_rfl) ?_
      refine rw_p rfl rfl (y_move rfl) ?_
      refine rw_p rfl rfl (y_add rfl rfl (i64w (by omega) (by omega))) ?_
      refine rw_p rfl rfl (y_assign rfl) ?_
      refine rw_done ?_
      refine next (x.1 + 1, x.2.1, x.2.2.1, x.2.2.2.1, x.2.2.2.2) (by simp only; omega) ⟨(hm.pickT [2, 3] 4 rfl), ha_s, by rw [hxm, Pl.jfst_next, hr]; simp, hH, by simp only; omega, htp⟩ ⟨nx x.1, rfl, rfl, rfl, rfl, rfl, rfl, rfl, trivial⟩
    ·
      rename_i rr
      have hta := jtop_add (x := rr) (l := x.2.2.1.map RcV.rc) (by rw [List.length_map]; exact hxl)
      rw [List.length_map] at hta
      refine HW_text (.pure 0 (.act 1 (.pure 2 (.pure 3 (.pure 4 (.act 5 (.act 6 (.pure 7 .done)))))))) (by kernel_rfl) ?_
      refine rw_p rfl rfl (y_move rfl) ?_
      refine a_call rfl rfl rfl go32 (r21_decode p_t cap_t (Pl.rdB D ((Pl.jat D f N x.1 : Nat) : Int) ((N * D.sz : Nat) : Int)) _ hR_t hl_t hs_t (Nat.le_trans (rdB_len hok _ _) (by decide))) fun v w hR => ?_
      obtain ⟨p_d, cap_d, g_d, b_d, rfl, ha_d, hmc⟩ := hR
      refine ⟨trivial, ?_⟩
      have hg_d : b_d.real = true → _ := fun hr => (hmc.fresh _ List.mem_cons_self hr).resolve_left id
      replace hm := hm.callN hmc
      rw [show Pl.rdec (Pl.rdB D ((Pl.jat D f N x.1 : Nat) : Int) ((N * D.sz : Nat) : Int)) = some rr from hr] at ha_d ⊢
      simp only [Option.getD_some, Option.isSome_some] at ha_d ⊢
      refine rw_p rfl rfl (y_move rfl) ?_
      refine rw_p rfl rfl (y_extract rfl rfl) ?_
      refine rw_p rfl rfl (y_extract rfl rfl) ?_
      refine a_alloc rfl rfl z78 hm trivial fun m2 w hg_m2 hm hh => ?_
      refine a_store rfl rfl rfl rfl sz78 rfl hm 0 rfl rfl fun w hm => ?_
      refine rw_p rfl rfl (y_assign rfl) ?_
      refine rw_done ?_
      refine gn_sq ?_
      refine HW_seq rfl ?_
      refine HW_seq rfl ?_
      refine HW_text (.pure 0 (.pure 1 .done)) (by kernel_rfl) ?_
      refine rw_p rfl rfl (y_move rfl) ?_
      refine rw_p rfl rfl (y_not rfl) ?_
      refine rw_done ?_
      refine gn_sq ?_
      refine HW_condF rfl rfl rfl ?_
      refine HW_skip rfl ?_
      refine gn_sq ?_
      refine HW_seq rfl ?_
      refine HW_seq rfl ?_
      by_cases hx0 : x.2.2.1.length = 0
      ·
        rw [if_pos (.inl hx0)] at hta
        refine HW_text (.pure 0 (.pure 1 (.pure 2 (.pure 3 (.pure 4 (.pure 5 (.pure 6 (.pure 7 (.pure 8 .done))))))))) (by kernel_rfl) ?_
        refine rw_p rfl rfl (y_move rfl) ?_
        refine rw_p rfl rfl (y_len rfl rfl sl81) ?_
        refine rw_p rfl rfl (y_as (c := true) (y_eq rfl rfl) (decide_eq_true (by omega))) ?_
        refine rw_p rfl rfl (y_move rfl) ?_
        refine rw_gf rfl rfl (by decide) rfl ?_
        refine rw_gf rfl rfl (by decide) rfl ?_
        refine rw_gf rfl rfl (by decide) rfl ?_
        refine rw_gf rfl rfl (by decide) rfl ?_
        refine rw_p rfl rfl (y_pickT rfl rfl) ?_
        refine rw_done ?_
        refine gn_sq ?_
        refine HW_condT rfl rfl rfl ?_
        refine HW_text (.pure 0 (.pure 1 (.pure 2 .done))) (by kernel_rfl) ?_
        refine rw_p rfl rfl (y_fieldAddr rfl fo78_0) ?_
        refine rw_p rfl rfl (y_load rfl sc23 (hm.nt 0 rfl) rfl) ?_
        refine rw_p rfl rfl (y_assign rfl) ?_
        refine rw_done ?_
        refine gn_sq ?_
        refine HW_seq rfl ?_
        refine HW_text (.pure 0 (.pure 1 (.act 2 (.act 3 (.pure 4 .done))))) (by kernel_rfl) ?_
        refine rw_p rfl rfl (y_move rfl) ?_
        refine rw_p rfl rfl (y_loadA (s := 5) (vs := [_, _, _, _, _]) rfl ag78 (hm.nt 0 rfl) rfl) ?_
        refine a_buildSlice (l := [_, _, _, _, _]) rfl rfl sl81 z78 rfl rfl rfl rfl rfl rfl rfl hm trivial fun m3 w hg_m3 hm hh => ?_
        refine a_append rfl rfl rfl rfl rfl rfl sl81 sl81 z78 rfl rfl (Rd.row0 (hm.get (k := 0) rfl)) rfl ha_s hm 3 rfl (by omega) (by omega) fun p_s cap_s g_s b_s w ha_s hm => ?_
        refine rw_p rfl rfl (y_assign rfl) ?_
        refine rw_done ?_
        refine gn_sq ?_
        refine HW_text (.pure 0 (.pure 1 (.pure 2 (.pure 3 (.pure 4 (.act 5 .done)))))) (by kernel_rfl) ?_
        refine rw_p rfl rfl (y_move rfl) ?_
        refine rw_p rfl rfl (y_move rfl) ?_
        refine rw_p rfl rfl (y_add rfl rfl rfl) ?_
        refine rw_p rfl rfl (y_nil rfl) ?_
        refine rw_p rfl rfl (y_fieldAddr rfl fo80_4) ?_
        refine a_store rfl rfl rfl rfl sz23 rfl hm 4 rfl rfl fun w hm => ?_
        have htop := hta
        rw [← hta, ← jnext_top (by simp)] at hm
        rw [show x.2.2.1.map RcV.rc ++ [rr] = (x.2.2.1 ++ [(⟨rr.sq, rr.id, rr.cu, rr.of, ⟨p_d, cap_d, rr.bs⟩⟩ : RcV)]).map RcV.rc by rw [List.map_append]; rfl] at hm
        have hm9 := ((hm.pickT [2, 3, 4] 5 rfl)).perm bagD
        refine rw_done ?_
        refine gn_bl ?_
        refine gn_sq ?_
        refine HW_text (.pure 0 (.pure 1 (.pure 2 .done))) (by kernel_rfl) ?_
        refine rw_p rfl rfl (y_move rfl) ?_
        refine rw_p rfl rfl (y_add rfl rfl (i64w (by omega) (by omega))) ?_
        refine rw_p rfl rfl (y_assign rfl) ?_
        refine rw_done ?_
        refine next (x.1 + 1, ⟨p_s, 0, cap_s, g_s, b_s⟩, x.2.2.1 ++ [(⟨rr.sq, rr.id, rr.cu, rr.of, ⟨p_d, cap_d, rr.bs⟩⟩ : RcV)], _, x.2.2.2.2 ++ [(g_d, b_d)]) (by simp only; omega) ⟨hm9, by rw [List.length_append]; exact ha_s.to (by rw [List.flatMap_append]; rfl), by rw [List.map_append, hxm, Pl.jfst_next, hr]; rfl, ?_, by simp only; omega, ?_⟩ ⟨nx x.1, by rw [List.length_append]; rfl, rfl, rfl, rfl, rfl, rfl, rfl, trivial⟩
        · intro y hy
          rcases List.mem_append.1 hy with h9 | h9
          · exact (hH y h9).mono fun e he => List.mem_append_left _ he
          · rw [List.mem_singleton.1 h9]; exact .inr ⟨g_d, b_d, by simp, ha_d⟩
        · rw [List.map_append]; exact htop.symm
      ·
        refine HW_text (.pure 0 (.pure 1 (.pure 2 (.pure 3 (.pure 4 (.pure 5 (.pure 6 (.pure 7 (.pure 8 .done))))))))) (by kernel_rfl) ?_
        refine rw_p rfl rfl (y_move rfl) ?_
        refine rw_p rfl rfl (y_len rfl rfl sl81) ?_
        refine rw_p rfl rfl (y_as (c := false) (y_eq rfl rfl) (decide_eq_false (by omega))) ?_
        refine rw_p rfl rfl (y_move rfl) ?_
        refine rw_p rfl rfl (y_fieldAddr rfl fo78_0) ?_
        refine rw_p rfl rfl (y_load rfl sc23 (hm.nt 0 rfl) rfl) ?_
        refine rw_p rfl rfl (y_move rfl) ?_
        refine rw_p rfl rfl (y_gt rfl rfl) ?_
        refine rw_p rfl rfl (y_pickF rfl rfl) ?_
        refine rw_done ?_
        refine gn_sq ?_
        refine HW_cond rfl rfl (fun hc3 => ?_) (fun hc3 => ?_)
        ·
          simp only [decide_eq_true_eq] at hc3
          rw [if_pos (.inr (by rw [← htp]; exact hc3))] at hta
          refine HW_text (.pure 0 (.pure 1 (.pure 2 .done))) (by kernel_rfl) ?_
          refine rw_p rfl rfl (y_fieldAddr rfl fo78_0) ?_
          refine rw_p rfl rfl (y_load rfl sc23 (hm.nt 0 rfl) rfl) ?_
          refine rw_p rfl rfl (y_assign rfl) ?_
          refine rw_done ?_
          refine gn_sq ?_
          refine HW_seq rfl ?_
          refine HW_text (.pure 0 (.pure 1 (.act 2 (.act 3 (.pure 4 .done))))) (by kernel_rfl) ?_
          refine rw_p rfl rfl (y_move rfl) ?_
          refine rw_p rfl rfl (y_loadA (s := 5) (vs := [_, _, _, _, _]) rfl ag78 (hm.nt 0 rfl) rfl) ?_
          refine a_buildSlice (l := [_, _, _, _, _]) rfl rfl sl81 z78 rfl rfl rfl rfl rfl rfl rfl hm trivial fun m3 w hg_m3 hm hh => ?_
          refine a_append rfl rfl rfl rfl rfl rfl sl81 sl81 z78 rfl rfl (Rd.row0 (hm.get (k := 0) rfl)) rfl ha_s hm 3 rfl (by omega) (by omega) fun p_s cap_s g_s b_s w ha_s hm => ?_
          refine rw_p rfl rfl (y_assign rfl) ?_
          refine rw_done ?_
          refine gn_sq ?_
          refine HW_text (.pure 0 (.pure 1 (.pure 2 (.pure 3 (.pure 4 (.act 5 .done)))))) (by kernel_rfl) ?_
          refine rw_p rfl rfl (y_move rfl) ?_
          refine rw_p rfl rfl (y_move rfl) ?_
          refine rw_p rfl rfl (y_add rfl rfl rfl) ?_
          refine rw_p rfl rfl (y_nil rfl) ?_
          refine rw_p rfl rfl (y_fieldAddr rfl fo80_4) ?_
          refine a_store rfl rfl rfl rfl sz23 rfl hm 4 rfl rfl fun w hm => ?_
          have htop := hta
          rw [← hta, ← jnext_top (by simp)] at hm
          rw [show x.2.2.1.map RcV.rc ++ [rr] = (x.2.2.1 ++ [(⟨rr.sq, rr.id, rr.cu, rr.of, ⟨p_d, cap_d, rr.bs⟩⟩ : RcV)]).map RcV.rc by rw [List.map_append]; rfl] at hm
          have hm9 := ((hm.pickT [2, 3, 4] 5 rfl)).perm bagD
          refine rw_done ?_
          refine gn_bl ?_
          refine gn_sq ?_
          refine HW_text (.pure 0 (.pure 1 (.pure 2 .done))) (by kernel_rfl) ?_
          refine rw_p rfl rfl (y_move rfl) ?_
          refine rw_p rfl rfl (y_add rfl rfl (i64w (by omega) (by omega))) ?_
          refine rw_p rfl rfl (y_assign rfl) ?_
          refine rw_done ?_
          refine next (x.1 + 1, ⟨p_s, 0, cap_s, g_s, b_s⟩, x.2.2.1 ++ [(⟨rr.sq, rr.id, rr.cu, rr.of, ⟨p_d, cap_d, rr.bs⟩⟩ : RcV)], _, x.2.2.2.2 ++ [(g_d, b_d)]) (by simp only; omega) ⟨hm9, by rw [List.length_append]; exact ha_s.to (by rw [List.flatMap_append]; rfl), by rw [List.map_append, hxm, Pl.jfst_next, hr]; rfl, ?_, by simp only; omega, ?_⟩ ⟨nx x.1, by rw [List.length_append]; rfl, rfl, rfl, rfl, rfl, rfl, rfl, trivial⟩
          · intro y hy
            rcases List.mem_append.1 hy with h9 | h9
            · exact (hH y h9).mono fun e he => List.mem_append_left _ he
            · rw [List.mem_singleton.1 h9]; exact .inr ⟨g_d, b_d, by simp, ha_d⟩
          · rw [List.map_append]; exact htop.symm
        ·
          simp only [decide_eq_false_iff_not] at hc3
          rw [if_neg (by rintro (h9 | h9); exact hx0 h9; rw [← htp] at h9; exact hc3 h9), ← htp] at hta
          refine HW_skip rfl ?_
          refine gn_sq ?_
          refine HW_seq rfl ?_
          refine HW_text (.pure 0 (.pure 1 (.act 2 (.act 3 (.pure 4 .done))))) (by kernel_rfl) ?_
          refine rw_p rfl rfl (y_move rfl) ?_
          refine rw_p rfl rfl (y_loadA (s := 5) (vs := [_, _, _, _, _]) rfl ag78 (hm.nt 0 rfl) rfl) ?_
          refine a_buildSlice (l := [_, _, _, _, _]) rfl rfl sl81 z78 rfl rfl rfl rfl rfl rfl rfl hm trivial fun m3 w hg_m3 hm hh => ?_
          refine a_append rfl rfl rfl rfl rfl rfl sl81 sl81 z78 rfl rfl (Rd.row0 (hm.get (k := 0) rfl)) rfl ha_s hm 3 rfl (by omega) (by omega) fun p_s cap_s g_s b_s w ha_s hm => ?_
          refine rw_p rfl rfl (y_assign rfl) ?_
          refine rw_done ?_
          refine gn_sq ?_
          refine HW_text (.pure 0 (.pure 1 (.pure 2 (.pure 3 (.pure 4 (.act 5 .done)))))) (by kernel_rfl) ?_
          refine rw_p rfl rfl (y_move rfl) ?_
          refine rw_p rfl rfl (y_move rfl) ?_
          refine rw_p rfl rfl (y_add rfl rfl rfl) ?_
          refine rw_p rfl rfl (y_nil rfl) ?_
          refine rw_p rfl rfl (y_fieldAddr rfl fo80_4) ?_
          refine a_store rfl rfl rfl rfl sz23 rfl hm 4 rfl rfl fun w hm => ?_
          have htop := hta
          rw [← hta, ← jnext_top (by simp)] at hm
          rw [show x.2.2.1.map RcV.rc ++ [rr] = (x.2.2.1 ++ [(⟨rr.sq, rr.id, rr.cu, rr.of, ⟨p_d, cap_d, rr.bs⟩⟩ : RcV)]).map RcV.rc by rw [List.map_append]; rfl] at hm
          have hm9 := ((hm.pickT [2, 3, 4] 5 rfl)).perm bagD
          refine rw_done ?_
          refine gn_bl ?_
          refine gn_sq ?_
          refine HW_text (.pure 0 (.pure 1 (.pure 2 .done))) (by kernel_rfl) ?_
          refine rw_p rfl rfl (y_move rfl) ?_
          refine rw_p rfl rfl (y_add rfl rfl (i64w (by omega) (by omega))) ?_
          refine rw_p rfl rfl (y_assign rfl) ?_
          refine rw_done ?_
          refine next (x.1 + 1, ⟨p_s, 0, cap_s, g_s, b_s⟩, x.2.2.1 ++ [(⟨rr.sq, rr.id, rr.cu, rr.of, ⟨p_d, cap_d, rr.bs⟩⟩ : RcV)], _, x.2.2.2.2 ++ [(g_d, b_d)]) (by simp only; omega) ⟨hm9, by rw [List.length_append]; exact ha_s.to (by rw [List.flatMap_append]; rfl), by rw [List.map_append, hxm, Pl.jfst_next, hr]; rfl, ?_, by simp only; omega, ?_⟩ ⟨nx x.1, by rw [List.length_append]; rfl, rfl, rfl, rfl, rfl, rfl, rfl, trivial⟩
          · intro y hy
            rcases List.mem_append.1 hy with h9 | h9
            · exact (hH y h9).mono fun e he => List.mem_append_left _ he
            · rw [List.mem_singleton.1 h9]; exact .inr ⟨g_d, b_d, by simp, ha_d⟩
          · rw [List.map_append]; exact htop.symm
  ·
    simp only [decide_eq_false_iff_not] at hc0
    obtain ⟨i9, ⟨p_s, n9, cap_s, g_s, b_s⟩, xs, tp, BB⟩ := x
    simp only at hm ha_s hxm hH hk htp hc0 ⊢
    obtain rfl : i9 = 2 := by omega
    rw [Pl.jfst_two] at hxm
    have hxl : xs.length ≤ 2 := by have h9 := congrArg List.length hxm; rw [List.length_map] at h9; have h8 := Pl.jfst_len D f N 2; rw [Pl.jfst_two] at h8; omega
    have hS9 := new_same k xs
    have hbF : (bestR (xs.filter fun x => decide (x.id = k))).rc = Pl.bestC ((Pl.jrecs D f N).filter fun r => decide (r.id = k)) := by rw [bestR_rc, filt_rc, hxm]
    have hlF : (xs.filter fun x => decide (x.id = k)).length = ((Pl.jrecs D f N).filter fun r => decide (r.id = k)).length := by rw [← hxm, ← filt_rc, List.length_map]
    rw [hxm] at hm
    have hRX : RdX BB 5 (bestR (xs.filter fun x => decide (x.id = k))).d.p (bestR (xs.filter fun x => decide (x.id = k))).d.cap (bestR (xs.filter fun x => decide (x.id = k))).d.bs := by
      by_cases h9 : (xs.filter fun x => decide (x.id = k)) = []
      · rw [h9]; exact .inl ⟨rfl, rfl⟩
      · exact hH _ (List.mem_filter.1 (bestR_mem h9)).1
    refine HW_exit rfl ?_
    refine gx_sq (gx_lp ?_)
    refine gx_here ?_
    refine gn_sq ?_
    refine HW_seq rfl ?_
    refine HW_text (.pure 0 (.pure 1 (.pure 2 (.pure 3 (.act 4 (.pure 5 (.pure 6 (.pure 7 (.pure 8 (.pure 9 (.act 10 (.pure 11 (.pure 12 (.act 13 .done)))))))))))))) (by kernel_rfl) ?_
    refine rw_p rfl rfl (y_move rfl) ?_
    refine rw_p rfl rfl (y_move rfl) ?_
    refine rw_p rfl rfl (y_move rfl) ?_
    refine rw_p rfl rfl (y_move rfl) ?_
    refine a_call rfl rfl rfl go33 (r21_newest k p_s cap_s xs _ (ha_s.rd hm 0 rfl) (by omega)) fun v w hR => ?_
    obtain ⟨rfl, hE⟩ := hR
    refine ⟨trivial, ?_⟩
    replace hm := hm.ext hE
    rw [hS9.1, hS9.2]
    refine rw_p rfl rfl (y_move rfl) ?_
    refine rw_p rfl rfl (y_extract rfl rfl) ?_
    refine rw_p rfl rfl (y_extract rfl rfl) ?_
    refine rw_p rfl rfl (y_nil rfl) ?_
    refine rw_p rfl rfl (y_fieldAddr rfl fo80_6) ?_
    refine a_store rfl rfl rfl rfl sz78 rfl hm 1 rfl rfl fun w hm => ?_
    refine rw_p rfl rfl (y_nil rfl) ?_
    refine rw_p rfl rfl (y_fieldAddr rfl fo80_5) ?_
    refine a_store rfl rfl rfl rfl sz4 rfl hm 1 rfl rfl fun w hm => ?_
    refine rw_done ?_
    refine gn_sq ?_
    refine HW_seq rfl ?_
    refine HW_text (.pure 0 (.pure 1 (.pure 2 .done))) (by kernel_rfl) ?_
    refine rw_p rfl rfl (y_move rfl) ?_
    refine rw_p rfl rfl (y_assign rfl) ?_
    refine rw_p rfl rfl (y_assign rfl) ?_
    refine rw_done ?_
    refine gn_sq ?_
    refine HW_ret rfl ?_
    refine toR (fin hret rfl (.tmp rfl (.tmp rfl .nil)) .more ?_)
    refine ⟨m1, (bestR (xs.filter fun x => decide (x.id = k))).d.p, (bestR (xs.filter fun x => decide (x.id = k))).d.cap, BB, rfl, ?_, ?_⟩
    · have h9 := (hm.pickT [1] 2 rfl)
      rw [hlF] at h9
      rw [show rjrow (.pointer (some ⟨m, 0, none⟩)) (f : Int) b k (Pl.jopen D f N k) (bestR (xs.filter fun x => decide (x.id = k))).d.p (bestR (xs.filter fun x => decide (x.id = k))).d.cap = [.pointer (some ⟨m, 0, none⟩), .int .i64 (f : Int), .int .i64 b, .int .u64 k, .int .u64 (Pl.jnext (Pl.jrecs D f N)), .bool (decide (0 < ((Pl.jrecs D f N).filter fun r => decide (r.id = k)).length)), .int .u64 (bestR (xs.filter fun x => decide (x.id = k))).rc.sq, .int .u64 (bestR (xs.filter fun x => decide (x.id = k))).rc.id, .int .i64 (bestR (xs.filter fun x => decide (x.id = k))).rc.cu, .int .i64 (bestR (xs.filter fun x => decide (x.id = k))).rc.of, .slice (bestR (xs.filter fun x => decide (x.id = k))).d.p (bestR (xs.filter fun x => decide (x.id = k))).rc.bs.length (bestR (xs.filter fun x => decide (x.id = k))).d.cap] by rw [hbF]; rfl]
      exact h9
    · rw [show (Pl.jopen D f N k).la = (bestR (xs.filter fun x => decide (x.id = k))).rc from hbF.symm]; exact hRX

end Go.Proofs.YthailbggeafckaaGreat
