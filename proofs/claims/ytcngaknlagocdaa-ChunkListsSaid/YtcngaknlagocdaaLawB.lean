/- Contracts of functions of the program: what each returns. Conditions: the hypotheses of each theorem. -/
import Derived.Test.YtcngaknlagocdaaLaw
set_option linter.unusedVariables false
set_option linter.unusedSimpArgs false
namespace Go.Proofs.Ytcngaknlagocdaa
open Go Go.Cx

theorem go21 : isGo Try.prog 21 = true := by kernel_rfl

set_option maxHeartbeats 800000 in
theorem law_bounds (c : Pl.Cm) (p : Option Addr) (cap : Nat) (s : Int) (w0 : World) (hb : SB.ok w0 ⟨p, cap, c.bs⟩) (hk : Pl.okCm c) (hs : Pl.I64 s)  : C Try.prog 4 [.agg ⟨cmV c p c.bs.length cap⟩, .int .i64 s] w0 fun v w' => v = .bool true ∧ Ext No w0 w' := by
  have hb1 := hb.le
  have hb2 := hb.max
  simp only at hb1 hb2
  have hbr : Rd w0 p (c.bs.flatMap encB) := hb.rd
  have hbs : cap ≠ 0 → ∀ ad, p = some ad → ad.spot = none := hb.spot
  refine C_of Try.func4 rfl rfl rfl fun κ hret hnorm => ?_
  have hm := Mem.start w0
  refine HW_seq rfl ?_
  refine HW_text (.act 0 (.pure 1 .done)) (by kernel_rfl) ?_
  refine a_box rfl rfl rfl rfl hm trivial fun m1 w hg_m1 hm hh => ?_
  refine rw_p rfl rfl (y_assign rfl) ?_
  refine rw_done ?_
  refine gn_sq ?_
  refine HW_seq rfl ?_
  refine HW_seq rfl ?_
  refine HW_text (.pure 0 (.pure 1 (.act 2 (.pure 3 (.pure 4 (.pure 5 (.pure 6 (.pure 7 .done)))))))) (by kernel_rfl) ?_
  refine rw_p rfl rfl (y_loadA (s := 5) (vs := [_, _, _, _, _]) rfl ag24 (hm.nt 0 rfl) rfl) ?_
  refine rw_p rfl rfl (y_move rfl) ?_
  refine a_call rfl rfl rfl go9 (law_few _ _ _ _ _ hk (by omega) hs) fun v w hR => ?_
  obtain ⟨bo, rfl, hfew, hE⟩ := hR
  refine ⟨trivial, ?_⟩
  replace hm := hm.ext hE
  refine rw_p rfl rfl (y_not rfl) ?_
  refine rw_p rfl rfl (y_move rfl) ?_
  refine rw_g rfl rfl rfl (fun hc => (y_move rfl)) ?_
  refine rw_g rfl rfl rfl (fun hc => (y_lt (gx hc rfl) rfl)) ?_
  refine rw_p rfl rfl (y_or rfl rfl rfl) ?_
  refine rw_done ?_
  refine gn_sq ?_
  refine HW_cond rfl rfl (fun hc0 => ?_) (fun hc0 => ?_)
  ·
    simp only [Bool.and_eq_true, Bool.or_eq_true, Bool.and_eq_false_iff, Bool.or_eq_false_iff, Bool.not_eq_true', Bool.not_eq_false', decide_eq_true_eq, decide_eq_false_iff_not] at hc0
    refine HW_seq rfl ?_
    refine HW_text (.act 0 (.pure 1 .done)) (by kernel_rfl) ?_
    refine a_call rfl rfl rfl go10 (law_alive _) fun v w hR => ?_
    obtain ⟨rfl, hE⟩ := hR
    refine ⟨trivial, ?_⟩
    replace hm := hm.ext hE
    refine rw_p rfl rfl (y_assign rfl) ?_
    refine rw_done ?_
    refine gn_sq ?_
    refine HW_ret rfl ?_
    refine gr_sq ?_
    refine toR (fin hret rfl (.tmp rfl .nil) .one ?_)
    exact ⟨rfl, hm.to⟩
  ·
    simp only [Bool.or_eq_false_iff, Bool.not_eq_false', decide_eq_false_iff_not] at hc0
    obtain ⟨hc, hl3, hn3⟩ := hfew hc0.1
    have hs1 : 1 ≤ s := by omega
    have hn0 := Pl.chCount_nonneg (s := s) hc
    have hcc := Pl.chunks_count (c := c) (s := s) hn0.1 (by omega)
    have hck := Pl.ccheck_ok hc
    refine HW_skip rfl ?_
    refine gn_sq ?_
    refine HW_seq rfl ?_
    refine HW_text (.pure 0 .done) (by kernel_rfl) ?_
    refine rw_p rfl rfl (y_assign rfl) ?_
    refine rw_done ?_
    refine gn_sq ?_
    refine HW_seq rfl ?_
    refine HW_seq rfl ?_
    refine HW_text (.pure 0 (.pure 1 (.act 2 (.pure 3 (.pure 4 .done))))) (by kernel_rfl) ?_
    refine rw_p rfl rfl (y_loadA (s := 5) (vs := [_, _, _, _, _]) rfl ag24 (hm.nt 0 rfl) rfl) ?_
    refine rw_p rfl rfl (y_move rfl) ?_
    refine a_call rfl rfl rfl go11 (ch_split c p cap s _ (hb.ext hm.to) (by omega) hc hs) fun v w hR => ?_
    obtain ⟨xs_t, p_t, n_t, cap_t, g_t, b_t, B_t, rfl, ha_t, hx_t, hh_t, hmc⟩ := hR
    refine ⟨trivial, ?_⟩
    replace hm := hm.callT1 hmc
    obtain rfl := ha_t.lenE encC_len (by decide)
    have hxl := congrArg List.length hx_t
    rw [List.length_map] at hxl
    refine rw_p rfl rfl (y_len rfl rfl sl27) ?_
    refine rw_p rfl rfl (y_move rfl) ?_
    refine rw_done ?_
    refine gn_sq ?_
    refine HW_block rfl ?_
    refine HW_loopK (ι := Nat) rfl (ks := [1, 2, 20, 21]) (.cons rfl (.cons rfl (.cons rfl (.cons rfl .nil)))) (fun x => [(22, .int .i64 x), (5, .int .i64 (Pl.chSum c s x))]) (fun x w => Mem w0 w No ((g_t, b_t) :: (m1, .row 24 (cmV c p c.bs.length cap)) :: B_t) ∧ x ≤ xs_t.length) (fun x => xs_t.length - x) 0 (⟨(hm.pickT [0, 1] 2 rfl), Nat.zero_le _⟩) ⟨rfl, (by rw [Pl.chSum_zero hc]; rfl), trivial⟩ (fun x w hM => ?_)
    obtain ⟨hm, hk0⟩ := hM
    refine HW_seq rfl ?_
    refine HW_text (.pure 0 .done) (by kernel_rfl) ?_
    refine rw_p rfl rfl (y_lt rfl rfl) ?_
    refine rw_done ?_
    refine gn_sq ?_
    refine HW_seq rfl ?_
    refine HW_cond rfl rfl (fun hc1 => ?_) (fun hc1 => ?_)
    ·
      simp only [decide_eq_true_eq] at hc1
      obtain ⟨e, hi⟩ : ∃ y_, xs_t[x]? = some y_ := ⟨_, List.getElem?_eq_getElem (by omega)⟩
      obtain ⟨qb, qo, rfl⟩ := (ha_t.rd hm 0 rfl).atI encC_len (by decide) hi
      have hxc : (x : Int) < Pl.chCount c s := by omega
      have hec : e.cm = Pl.chAt c s x := cm_at hx_t hi (Pl.chunks_get (by omega) hxc)
      have hok := Pl.chAt_ok hc (s := s) (k := x) (by omega)
      have hcx := Pl.chAt_check hc (s := s) (k := x) (by omega)
      have hfx := Pl.chAt_fr hc (s := s) (k := x) (by omega)
      have hsn := Pl.chSum_next hc hxc
      have hsb := Pl.chSum_bnd hc hs1 (k := x) (by omega)
      have hsb2 := Pl.chSum_bnd hc hs1 (k := x + 1) (by omega)
      rw [← hec] at hcx hfx hsn
      have hke := Pl.ccheck_ok hcx.1
      have hel : (e.cm.bs.length : Int) ≤ 4611686018427387903 := Pl.clen_bs hcx.1
      have e1 : e.cm.k = e.k := rfl
      have e2 : e.cm.to = e.to := rfl
      have e3 : e.cm.fr = e.fr := rfl
      have e4 : e.cm.ln = e.ln := rfl
      rw [e1] at hcx hke
      rw [e2] at hcx hke hfx
      rw [e3] at hke hfx
      rw [e4] at hke
      refine HW_skip rfl ?_
      refine gn_sq ?_
      refine HW_seq rfl ?_
      refine HW_block rfl ?_
      refine HW_seq rfl ?_
      refine HW_text (.pure 0 (.pure 1 (.pure 2 (.act 3 (.pure 4 (.act 5 .done)))))) (by kernel_rfl) ?_
      refine rw_p rfl rfl (y_move rfl) ?_
      refine rw_p rfl rfl (y_index rfl rfl sl27 rfl (by omega) (by omega)) ?_
      refine rw_p rfl rfl (y_elA rfl ag24 (ha_t.rd hm 0 rfl).nt encC_len hi) ?_
      refine a_alloc rfl rfl z24 hm trivial fun m2 w hg_m2 hm hh => ?_
      refine rw_p rfl rfl (y_assign rfl) ?_
      refine a_store rfl rfl rfl rfl sz24 rfl hm 0 rfl rfl fun w hm => ?_
      refine rw_done ?_
      refine gn_sq ?_
      refine HW_seq rfl ?_
      refine HW_seq rfl ?_
      refine HW_text (.pure 0 (.act 1 (.pure 2 (.pure 3 (.pure 4 (.act 5 (.pure 6 (.pure 7 (.pure 8 (.pure 9 (.pure 10 (.pure 11 (.pure 12 (.pure 13 (.pure 14 (.pure 15 (.pure 16 (.pure 17 (.pure 18 (.pure 19 (.pure 20 (.pure 21 (.pure 22 .done))))))))))))))))))))))) (by kernel_rfl) ?_
      refine rw_p rfl rfl (y_loadA (s := 5) (vs := [_, _, _, _, _]) rfl ag24 (hm.nt 0 rfl) rfl) ?_
      refine a_call rfl rfl rfl go17 (r4_check e.cm e.d.p e.d.cap _ (by simp only [Pl.okCm, Pl.I64, e1, e2, e3, e4]; omega) (by omega)) fun v w hR => ?_
      obtain ⟨rfl, hE⟩ := hR
      refine ⟨trivial, ?_⟩
      replace hm := hm.ext hE
      refine rw_p rfl rfl (y_as (c := false) (y_ne rfl rfl) (by simp [hcx.1])) ?_
      refine rw_p rfl rfl (y_move rfl) ?_
      refine rw_p rfl rfl (y_loadA (s := 5) (vs := [_, _, _, _, _]) rfl ag24 (hm.nt 0 rfl) rfl) ?_
      refine a_call rfl rfl rfl go18 (r4_len e.cm e.d.p e.d.cap _) fun v w hR => ?_
      obtain ⟨rfl, hE⟩ := hR
      refine ⟨trivial, ?_⟩
      replace hm := hm.ext hE
      refine rw_p rfl rfl (y_move rfl) ?_
      refine rw_p rfl rfl (y_as (c := false) (y_gt rfl rfl) (decide_eq_false (by omega))) ?_
      refine rw_p rfl rfl (y_pickF rfl rfl) ?_
      refine rw_p rfl rfl (y_move rfl) ?_
      refine rw_p rfl rfl (y_fieldAddr rfl fo24_1) ?_
      refine rw_p rfl rfl (y_load rfl sc3 (hm.nt 0 rfl) rfl) ?_
      refine rw_p rfl rfl (y_fieldAddr rfl fo24_1) ?_
      refine rw_p rfl rfl (y_load rfl sc3 (hm.nt 2 rfl) rfl) ?_
      refine rw_p rfl rfl (y_as (c := false) (y_lt rfl rfl) (decide_eq_false (by omega))) ?_
      refine rw_p rfl rfl (y_pickF rfl rfl) ?_
      refine rw_p rfl rfl (y_move rfl) ?_
      refine rw_p rfl rfl (y_fieldAddr rfl fo24_0) ?_
      refine rw_p rfl rfl (y_load rfl sc3 (hm.nt 0 rfl) rfl) ?_
      refine rw_p rfl rfl (y_fieldAddr rfl fo24_0) ?_
      refine rw_p rfl rfl (y_load rfl sc3 (hm.nt 2 rfl) rfl) ?_
      refine rw_p rfl rfl (y_as (c := false) (y_ne rfl rfl) (by simp [hcx.2.2.2])) ?_
      refine rw_p rfl rfl (y_pickF rfl rfl) ?_
      refine rw_done ?_
      refine gn_sq ?_
      refine HW_condF rfl rfl rfl ?_
      refine HW_skip rfl ?_
      refine gn_sq ?_
      refine HW_seq rfl ?_
      refine HW_text (.pure 0 (.pure 1 .done)) (by kernel_rfl) ?_
      refine rw_p rfl rfl (y_move rfl) ?_
      refine rw_p rfl rfl (y_assign rfl) ?_
      refine rw_done ?_
      refine gn_sq ?_
      refine HW_seq rfl ?_
      refine HW_seq rfl ?_
      refine HW_text (.pure 0 (.act 1 .done)) (by kernel_rfl) ?_
      refine rw_p rfl rfl (y_loadA (s := 5) (vs := [_, _, _, _, _]) rfl ag24 (hm.nt 2 rfl) rfl) ?_
      refine a_call rfl rfl rfl go16 (r17_down c p cap _ hc) fun v w hR => ?_
      obtain ⟨rfl, hE⟩ := hR
      refine ⟨trivial, ?_⟩
      replace hm := hm.ext hE
      refine rw_done ?_
      refine gn_sq ?_
      refine HW_cond rfl rfl (fun hc3 => ?_) (fun hc3 => ?_)
      ·
        have hix : Pl.chIx c s x = Pl.chCount c s - 1 - x := by simp [Pl.chIx, hc3]
        rw [hix] at hok hcx
        refine HW_text (.pure 0 (.pure 1 (.act 2 (.pure 3 (.pure 4 (.pure 5 (.pure 6 .done))))))) (by kernel_rfl) ?_
        refine rw_p rfl rfl (y_loadA (s := 5) (vs := [_, _, _, _, _]) rfl ag24 (hm.nt 2 rfl) rfl) ?_
        refine rw_p rfl rfl (y_move rfl) ?_
        refine a_call rfl rfl rfl go19 (r17_count c p cap s _ hc hs) fun v w hR => ?_
        obtain ⟨rfl, hE⟩ := hR
        refine ⟨trivial, ?_⟩
        replace hm := hm.ext hE
        refine rw_p rfl rfl (y_sub rfl rfl (i64w (by omega) (by omega))) ?_
        refine rw_p rfl rfl (y_move rfl) ?_
        refine rw_p rfl rfl (y_sub rfl rfl (i64w (by omega) (by omega))) ?_
        refine rw_p rfl rfl (y_assign rfl) ?_
        refine rw_done ?_
        refine gn_sq ?_
        refine HW_seq rfl ?_
        refine HW_seq rfl ?_
        by_cases hk1 : c.k = 1
        ·
          have hfx := hfx hk1
          refine HW_text (.pure 0 (.pure 1 (.pure 2 (.pure 3 (.pure 4 (.pure 5 (.pure 6 (.pure 7 (.pure 8 (.pure 9 (.pure 10 (.pure 11 (.pure 12 (.pure 13 (.pure 14 (.pure 15 (.pure 16 (.pure 17 (.pure 18 (.pure 19 (.pure 20 (.pure 21 (.pure 22 (.pure 23 (.pure 24 (.pure 25 (.pure 26 .done))))))))))))))))))))))))))) (by kernel_rfl) ?_
          refine rw_p rfl rfl (y_fieldAddr rfl fo24_1) ?_
          refine rw_p rfl rfl (y_load rfl sc3 (hm.nt 0 rfl) rfl) ?_
          refine rw_p rfl rfl (y_fieldAddr rfl fo24_1) ?_
          refine rw_p rfl rfl (y_load rfl sc3 (hm.nt 2 rfl) rfl) ?_
          refine rw_p rfl rfl (y_move rfl) ?_
          refine rw_p rfl rfl (y_move rfl) ?_
          refine rw_p rfl rfl (y_mul rfl rfl (i64w (by omega) (by omega))) ?_
          refine rw_p rfl rfl (y_add rfl rfl (i64w (by omega) (by omega))) ?_
          refine rw_p rfl rfl (y_as (c := false) (y_ne rfl rfl) (decide_eq_false (by omega))) ?_
          refine rw_p rfl rfl (y_move rfl) ?_
          refine rw_p rfl rfl (y_fieldAddr rfl fo24_0) ?_
          refine rw_p rfl rfl (y_load rfl sc3 (hm.nt 2 rfl) rfl) ?_
          refine rw_p rfl rfl (y_as (c := true) (y_eq rfl rfl) (by simpa using hk1)) ?_
          refine rw_p rfl rfl (y_move rfl) ?_
          refine rw_p rfl rfl (y_fieldAddr rfl fo24_2) ?_
          refine rw_p rfl rfl (y_load rfl sc3 (hm.nt 0 rfl) rfl) ?_
          refine rw_p rfl rfl (y_fieldAddr rfl fo24_2) ?_
          refine rw_p rfl rfl (y_load rfl sc3 (hm.nt 2 rfl) rfl) ?_
          refine rw_p rfl rfl (y_sub rfl rfl (i64w (by omega) (by omega))) ?_
          refine rw_p rfl rfl (y_fieldAddr rfl fo24_1) ?_
          refine rw_p rfl rfl (y_load rfl sc3 (hm.nt 0 rfl) rfl) ?_
          refine rw_p rfl rfl (y_fieldAddr rfl fo24_1) ?_
          refine rw_p rfl rfl (y_load rfl sc3 (hm.nt 2 rfl) rfl) ?_
          refine rw_p rfl rfl (y_sub rfl rfl (i64w (by omega) (by omega))) ?_
          refine rw_p rfl rfl (y_as (c := false) (y_ne rfl rfl) (decide_eq_false (by omega))) ?_
          refine rw_p rfl rfl (y_pickT rfl rfl) ?_
          refine rw_p rfl rfl (y_pickF rfl rfl) ?_
          refine rw_done ?_
          refine gn_sq ?_
          refine HW_condF rfl rfl rfl ?_
          refine HW_skip rfl ?_
          refine gn_sq ?_
          refine HW_text (.pure 0 (.pure 1 (.act 2 (.pure 3 (.pure 4 .done))))) (by kernel_rfl) ?_
          refine rw_p rfl rfl (y_move rfl) ?_
          refine rw_p rfl rfl (y_loadA (s := 5) (vs := [_, _, _, _, _]) rfl ag24 (hm.nt 0 rfl) rfl) ?_
          refine a_call rfl rfl rfl go18 (r4_len e.cm e.d.p e.d.cap _) fun v w hR => ?_
          obtain ⟨rfl, hE⟩ := hR
          refine ⟨trivial, ?_⟩
          replace hm := hm.ext hE
          refine rw_p rfl rfl (y_add rfl rfl (i64w (by omega) (by omega))) ?_
          refine rw_p rfl rfl (y_assign rfl) ?_
          refine rw_done ?_
          refine gn_bl ?_
          refine gn_sq ?_
          refine HW_text (.pure 0 (.pure 1 .done)) (by kernel_rfl) ?_
          refine rw_p rfl rfl (y_add rfl rfl (i64w (by omega) (by omega))) ?_
          refine rw_p rfl rfl (y_move rfl) ?_
          refine rw_done ?_
          refine next (x + 1) (by omega) ⟨(hm.pickT [1, 2] 3 rfl), by omega⟩ ⟨nx x, by rw [hsn]; rfl, rfl, rfl, rfl, rfl, trivial⟩
        ·
          refine HW_text (.pure 0 (.pure 1 (.pure 2 (.pure 3 (.pure 4 (.pure 5 (.pure 6 (.pure 7 (.pure 8 (.pure 9 (.pure 10 (.pure 11 (.pure 12 (.pure 13 (.pure 14 (.pure 15 (.pure 16 (.pure 17 (.pure 18 (.pure 19 (.pure 20 (.pure 21 (.pure 22 (.pure 23 (.pure 24 (.pure 25 (.pure 26 .done))))))))))))))))))))))))))) (by kernel_rfl) ?_
          refine rw_p rfl rfl (y_fieldAddr rfl fo24_1) ?_
          refine rw_p rfl rfl (y_load rfl sc3 (hm.nt 0 rfl) rfl) ?_
          refine rw_p rfl rfl (y_fieldAddr rfl fo24_1) ?_
          refine rw_p rfl rfl (y_load rfl sc3 (hm.nt 2 rfl) rfl) ?_
          refine rw_p rfl rfl (y_move rfl) ?_
          refine rw_p rfl rfl (y_move rfl) ?_
          refine rw_p rfl rfl (y_mul rfl rfl (i64w (by omega) (by omega))) ?_
          refine rw_p rfl rfl (y_add rfl rfl (i64w (by omega) (by omega))) ?_
          refine rw_p rfl rfl (y_as (c := false) (y_ne rfl rfl) (decide_eq_false (by omega))) ?_
          refine rw_p rfl rfl (y_move rfl) ?_
          refine rw_p rfl rfl (y_fieldAddr rfl fo24_0) ?_
          refine rw_p rfl rfl (y_load rfl sc3 (hm.nt 2 rfl) rfl) ?_
          refine rw_p rfl rfl (y_as (c := false) (y_eq rfl rfl) (by simpa using hk1)) ?_
          refine rw_p rfl rfl (y_move rfl) ?_
          refine rw_gf rfl rfl (by decide) rfl ?_
          refine rw_gf rfl rfl (by decide) rfl ?_
          refine rw_gf rfl rfl (by decide) rfl ?_
          refine rw_gf rfl rfl (by decide) rfl ?_
          refine rw_gf rfl rfl (by decide) rfl ?_
          refine rw_gf rfl rfl (by decide) rfl ?_
          refine rw_gf rfl rfl (by decide) rfl ?_
          refine rw_gf rfl rfl (by decide) rfl ?_
          refine rw_gf rfl rfl (by decide) rfl ?_
          refine rw_gf rfl rfl (by decide) rfl ?_
          refine rw_gf rfl rfl (by decide) rfl ?_
          refine rw_p rfl rfl (y_pickF rfl rfl) ?_
          refine rw_p rfl rfl (y_pickF rfl rfl) ?_
          refine rw_done ?_
          refine gn_sq ?_
          refine HW_condF rfl rfl rfl ?_
          refine HW_skip rfl ?_
          refine gn_sq ?_
          refine HW_text (.pure 0 (.pure 1 (.act 2 (.pure 3 (.pure 4 .done))))) (by kernel_rfl) ?_
          refine rw_p rfl rfl (y_move rfl) ?_
          refine rw_p rfl rfl (y_loadA (s := 5) (vs := [_, _, _, _, _]) rfl ag24 (hm.nt 0 rfl) rfl) ?_
          refine a_call rfl rfl rfl go18 (r4_len e.cm e.d.p e.d.cap _) fun v w hR => ?_
          obtain ⟨rfl, hE⟩ := hR
          refine ⟨trivial, ?_⟩
          replace hm := hm.ext hE
          refine rw_p rfl rfl (y_add rfl rfl (i64w (by omega) (by omega))) ?_
          refine rw_p rfl rfl (y_assign rfl) ?_
          refine rw_done ?_
          refine gn_bl ?_
          refine gn_sq ?_
          refine HW_text (.pure 0 (.pure 1 .done)) (by kernel_rfl) ?_
          refine rw_p rfl rfl (y_add rfl rfl (i64w (by omega) (by omega))) ?_
          refine rw_p rfl rfl (y_move rfl) ?_
          refine rw_done ?_
          refine next (x + 1) (by omega) ⟨(hm.pickT [1, 2] 3 rfl), by omega⟩ ⟨nx x, by rw [hsn]; rfl, rfl, rfl, rfl, rfl, trivial⟩
      ·
        have hix : Pl.chIx c s x = x := by simp [Pl.chIx, hc3]
        rw [hix] at hok hcx
        refine HW_skip rfl ?_
        refine gn_sq ?_
        refine HW_seq rfl ?_
        refine HW_seq rfl ?_
        by_cases hk1 : c.k = 1
        ·
          have hfx := hfx hk1
          refine HW_text (.pure 0 (.pure 1 (.pure 2 (.pure 3 (.pure 4 (.pure 5 (.pure 6 (.pure 7 (.pure 8 (.pure 9 (.pure 10 (.pure 11 (.pure 12 (.pure 13 (.pure 14 (.pure 15 (.pure 16 (.pure 17 (.pure 18 (.pure 19 (.pure 20 (.pure 21 (.pure 22 (.pure 23 (.pure 24 (.pure 25 (.pure 26 .done))))))))))))))))))))))))))) (by kernel_rfl) ?_
          refine rw_p rfl rfl (y_fieldAddr rfl fo24_1) ?_
          refine rw_p rfl rfl (y_load rfl sc3 (hm.nt 0 rfl) rfl) ?_
          refine rw_p rfl rfl (y_fieldAddr rfl fo24_1) ?_
          refine rw_p rfl rfl (y_load rfl sc3 (hm.nt 2 rfl) rfl) ?_
          refine rw_p rfl rfl (y_move rfl) ?_
          refine rw_p rfl rfl (y_move rfl) ?_
          refine rw_p rfl rfl (y_mul rfl rfl (i64w (by omega) (by omega))) ?_
          refine rw_p rfl rfl (y_add rfl rfl (i64w (by omega) (by omega))) ?_
          refine rw_p rfl rfl (y_as (c := false) (y_ne rfl rfl) (decide_eq_false (by omega))) ?_
          refine rw_p rfl rfl (y_move rfl) ?_
          refine rw_p rfl rfl (y_fieldAddr rfl fo24_0) ?_
          refine rw_p rfl rfl (y_load rfl sc3 (hm.nt 2 rfl) rfl) ?_
          refine rw_p rfl rfl (y_as (c := true) (y_eq rfl rfl) (by simpa using hk1)) ?_
          refine rw_p rfl rfl (y_move rfl) ?_
          refine rw_p rfl rfl (y_fieldAddr rfl fo24_2) ?_
          refine rw_p rfl rfl (y_load rfl sc3 (hm.nt 0 rfl) rfl) ?_
          refine rw_p rfl rfl (y_fieldAddr rfl fo24_2) ?_
          refine rw_p rfl rfl (y_load rfl sc3 (hm.nt 2 rfl) rfl) ?_
          refine rw_p rfl rfl (y_sub rfl rfl (i64w (by omega) (by omega))) ?_
          refine rw_p rfl rfl (y_fieldAddr rfl fo24_1) ?_
          refine rw_p rfl rfl (y_load rfl sc3 (hm.nt 0 rfl) rfl) ?_
          refine rw_p rfl rfl (y_fieldAddr rfl fo24_1) ?_
          refine rw_p rfl rfl (y_load rfl sc3 (hm.nt 2 rfl) rfl) ?_
          refine rw_p rfl rfl (y_sub rfl rfl (i64w (by omega) (by omega))) ?_
          refine rw_p rfl rfl (y_as (c := false) (y_ne rfl rfl) (decide_eq_false (by omega))) ?_
          refine rw_p rfl rfl (y_pickT rfl rfl) ?_
          refine rw_p rfl rfl (y_pickF rfl rfl) ?_
          refine rw_done ?_
          refine gn_sq ?_
          refine HW_condF rfl rfl rfl ?_
          refine HW_skip rfl ?_
          refine gn_sq ?_
          refine HW_text (.pure 0 (.pure 1 (.act 2 (.pure 3 (.pure 4 .done))))) (by kernel_rfl) ?_
          refine rw_p rfl rfl (y_move rfl) ?_
          refine rw_p rfl rfl (y_loadA (s := 5) (vs := [_, _, _, _, _]) rfl ag24 (hm.nt 0 rfl) rfl) ?_
          refine a_call rfl rfl rfl go18 (r4_len e.cm e.d.p e.d.cap _) fun v w hR => ?_
          obtain ⟨rfl, hE⟩ := hR
          refine ⟨trivial, ?_⟩
          replace hm := hm.ext hE
          refine rw_p rfl rfl (y_add rfl rfl (i64w (by omega) (by omega))) ?_
          refine rw_p rfl rfl (y_assign rfl) ?_
          refine rw_done ?_
          refine gn_bl ?_
          refine gn_sq ?_
          refine HW_text (.pure 0 (.pure 1 .done)) (by kernel_rfl) ?_
          refine rw_p rfl rfl (y_add rfl rfl (i64w (by omega) (by omega))) ?_
          refine rw_p rfl rfl (y_move rfl) ?_
          refine rw_done ?_
          refine next (x + 1) (by omega) ⟨(hm.pickT [1, 2] 3 rfl), by omega⟩ ⟨nx x, by rw [hsn]; rfl, rfl, rfl, rfl, rfl, trivial⟩
        ·
          refine HW_text (.pure 0 (.pure 1 (.pure 2 (.pure 3 (.pure 4 (.pure 5 (.pure 6 (.pure 7 (.pure 8 (.pure 9 (.pure 10 (.pure 11 (.pure 12 (.pure 13 (.pure 14 (.pure 15 (.pure 16 (.pure 17 (.pure 18 (.pure 19 (.pure 20 (.pure 21 (.pure 22 (.pure 23 (.pure 24 (.pure 25 (.pure 26 .done))))))))))))))))))))))))))) (by kernel_rfl) ?_
          refine rw_p rfl rfl (y_fieldAddr rfl fo24_1) ?_
          refine rw_p rfl rfl (y_load rfl sc3 (hm.nt 0 rfl) rfl) ?_
          refine rw_p rfl rfl (y_fieldAddr rfl fo24_1) ?_
          refine rw_p rfl rfl (y_load rfl sc3 (hm.nt 2 rfl) rfl) ?_
          refine rw_p rfl rfl (y_move rfl) ?_
          refine rw_p rfl rfl (y_move rfl) ?_
          refine rw_p rfl rfl (y_mul rfl rfl (i64w (by omega) (by omega))) ?_
          refine rw_p rfl rfl (y_add rfl rfl (i64w (by omega) (by omega))) ?_
          refine rw_p rfl rfl (y_as (c := false) (y_ne rfl rfl) (decide_eq_false (by omega))) ?_
          refine rw_p rfl rfl (y_move rfl) ?_
          refine rw_p rfl rfl (y_fieldAddr rfl fo24_0) ?_
          refine rw_p rfl rfl (y_load rfl sc3 (hm.nt 2 rfl) rfl) ?_
          refine rw_p rfl rfl (y_as (c := false) (y_eq rfl rfl) (by simpa using hk1)) ?_
          refine rw_p rfl rfl (y_move rfl) ?_
          refine rw_gf rfl rfl (by decide) rfl ?_
          refine rw_gf rfl rfl (by decide) rfl ?_
          refine rw_gf rfl rfl (by decide) rfl ?_
          refine rw_gf rfl rfl (by decide) rfl ?_
          refine rw_gf rfl rfl (by decide) rfl ?_
          refine rw_gf rfl rfl (by decide) rfl ?_
          refine rw_gf rfl rfl (by decide) rfl ?_
          refine rw_gf rfl rfl (by decide) rfl ?_
          refine rw_gf rfl rfl (by decide) rfl ?_
          refine rw_gf rfl rfl (by decide) rfl ?_
          refine rw_gf rfl rfl (by decide) rfl ?_
          refine rw_p rfl rfl (y_pickF rfl rfl) ?_
          refine rw_p rfl rfl (y_pickF rfl rfl) ?_
          refine rw_done ?_
          refine gn_sq ?_
          refine HW_condF rfl rfl rfl ?_
          refine HW_skip rfl ?_
          refine gn_sq ?_
          refine HW_text (.pure 0 (.pure 1 (.act 2 (.pure 3 (.pure 4 .done))))) (by kernel_rfl) ?_
          refine rw_p rfl rfl (y_move rfl) ?_
          refine rw_p rfl rfl (y_loadA (s := 5) (vs := [_, _, _, _, _]) rfl ag24 (hm.nt 0 rfl) rfl) ?_
          refine a_call rfl rfl rfl go18 (r4_len e.cm e.d.p e.d.cap _) fun v w hR => ?_
          obtain ⟨rfl, hE⟩ := hR
          refine ⟨trivial, ?_⟩
          replace hm := hm.ext hE
          refine rw_p rfl rfl (y_add rfl rfl (i64w (by omega) (by omega))) ?_
          refine rw_p rfl rfl (y_assign rfl) ?_
          refine rw_done ?_
          refine gn_bl ?_
          refine gn_sq ?_
          refine HW_text (.pure 0 (.pure 1 .done)) (by kernel_rfl) ?_
          refine rw_p rfl rfl (y_add rfl rfl (i64w (by omega) (by omega))) ?_
          refine rw_p rfl rfl (y_move rfl) ?_
          refine rw_done ?_
          refine next (x + 1) (by omega) ⟨(hm.pickT [1, 2] 3 rfl), by omega⟩ ⟨nx x, by rw [hsn]; rfl, rfl, rfl, rfl, rfl, trivial⟩
    ·
      simp only [decide_eq_false_iff_not] at hc1
      have hse := Pl.chSum_end hc hs1 (k := x) (by omega)
      refine HW_exit rfl ?_
      refine gx_sq (gx_lp ?_)
      refine gx_here ?_
      refine gn_sq ?_
      refine HW_seq rfl ?_
      refine HW_text (.act 0 (.pure 1 (.pure 2 (.pure 3 (.act 4 (.pure 5 (.pure 6 (.pure 7 .done)))))))) (by kernel_rfl) ?_
      refine a_call rfl rfl rfl go10 (law_alive _) fun v w hR => ?_
      obtain ⟨rfl, hE⟩ := hR
      refine ⟨trivial, ?_⟩
      replace hm := hm.ext hE
      refine rw_p rfl rfl (y_move rfl) ?_
      refine rw_p rfl rfl (y_move rfl) ?_
      refine rw_p rfl rfl (y_loadA (s := 5) (vs := [_, _, _, _, _]) rfl ag24 (hm.nt 1 rfl) rfl) ?_
      refine a_call rfl rfl rfl go18 (r4_len c p cap _) fun v w hR => ?_
      obtain ⟨rfl, hE⟩ := hR
      refine ⟨trivial, ?_⟩
      replace hm := hm.ext hE
      refine rw_p rfl rfl (y_as (c := true) (y_eq rfl rfl) (by simp [hse])) ?_
      refine rw_p rfl rfl (y_pickT rfl rfl) ?_
      refine rw_p rfl rfl (y_assign rfl) ?_
      refine rw_done ?_
      refine gn_sq ?_
      refine HW_ret rfl ?_
      refine toR (fin hret rfl (.tmp rfl .nil) .one ?_)
      exact ⟨rfl, hm.to⟩

set_option maxHeartbeats 800000 in
theorem law_lists (s : Int) (q : Option Addr) (cq : Nat) (cs : List CmdV) (w0 : World) (hq : Rd w0 q (cs.flatMap encC)) (hok : ∀ c ∈ cs, okC w0 c) (hs : Pl.I64 s) : C Try.prog 5 [.int .i64 s, .slice q cs.length cq] w0 fun v w' => v = .bool true ∧ Ext No w0 w' := by
  refine C_of Try.func5 rfl rfl rfl fun κ hret hnorm => ?_
  have hm := Mem.start w0
  refine HW_seq rfl ?_
  refine HW_text (.pure 0 .done) (by kernel_rfl) ?_
  refine rw_p rfl rfl (y_assign rfl) ?_
  refine rw_done ?_
  refine gn_sq ?_
  refine HW_seq rfl ?_
  refine HW_seq rfl ?_
  refine HW_text (.pure 0 (.pure 1 (.pure 2 .done))) (by kernel_rfl) ?_
  refine rw_p rfl rfl (y_move rfl) ?_
  refine rw_p rfl rfl (y_len rfl rfl sl27) ?_
  refine rw_p rfl rfl (y_gt rfl rfl) ?_
  refine rw_done ?_
  refine gn_sq ?_
  refine HW_cond rfl rfl (fun hc0 => ?_) (fun hc0 => ?_)
  ·
    simp only [Bool.and_eq_true, Bool.or_eq_true, Bool.and_eq_false_iff, Bool.or_eq_false_iff, Bool.not_eq_true', Bool.not_eq_false', decide_eq_true_eq, decide_eq_false_iff_not] at hc0
    refine HW_seq rfl ?_
    refine HW_text (.act 0 (.pure 1 .done)) (by kernel_rfl) ?_
    refine a_call rfl rfl rfl go10 (law_alive _) fun v w hR => ?_
    obtain ⟨rfl, hE⟩ := hR
    refine ⟨trivial, ?_⟩
    replace hm := hm.ext hE
    refine rw_p rfl rfl (y_assign rfl) ?_
    refine rw_done ?_
    refine gn_sq ?_
    refine HW_ret rfl ?_
    refine gr_sq ?_
    refine toR (fin hret rfl (.tmp rfl .nil) .one ?_)
    exact ⟨rfl, hm.to⟩
  ·
    simp only [Bool.and_eq_true, Bool.or_eq_true, Bool.and_eq_false_iff, Bool.or_eq_false_iff, Bool.not_eq_true', Bool.not_eq_false', decide_eq_true_eq, decide_eq_false_iff_not] at hc0
    refine HW_skip rfl ?_
    refine gn_sq ?_
    refine HW_seq rfl ?_
    refine HW_seq rfl ?_
    refine HW_text (.pure 0 (.pure 1 (.pure 2 .done))) (by kernel_rfl) ?_
    refine rw_p rfl rfl (y_move rfl) ?_
    refine rw_p rfl rfl (y_len rfl rfl sl27) ?_
    refine rw_p rfl rfl (y_move rfl) ?_
    refine rw_done ?_
    refine gn_sq ?_
    refine HW_block rfl ?_
    refine HW_loopK (ι := Nat) rfl (ks := [0, 1, 11, 12]) (.cons rfl (.cons rfl (.cons rfl (.cons rfl .nil)))) (fun x => [(13, .int .i64 x)]) (fun x w => Mem w0 w No [] ∧ x ≤ cs.length ∧ ∀ (j : Nat) c, j < x → cs[j]? = some c → Pl.ccheck c.cm = 0 ∧ c.d.bs.length ≤ 300 ∧ Pl.chCount c.cm s ≤ 300) (fun x => cs.length - x) 0 (⟨hm, Nat.zero_le _, fun _ _ h => absurd h (Nat.not_lt_zero _)⟩) ⟨rfl, trivial⟩ (fun x w hM => ?_)
    obtain ⟨hm, hk, hno⟩ := hM
    refine HW_seq rfl ?_
    refine HW_text (.pure 0 .done) (by kernel_rfl) ?_
    refine rw_p rfl rfl (y_lt rfl rfl) ?_
    refine rw_done ?_
    refine gn_sq ?_
    refine HW_seq rfl ?_
    refine HW_cond rfl rfl (fun hc1 => ?_) (fun hc1 => ?_)
    ·
      simp only [decide_eq_true_eq] at hc1
      obtain ⟨c, hi⟩ : ∃ y_, cs[x]? = some y_ := ⟨_, List.getElem?_eq_getElem (by omega)⟩
      obtain ⟨qb, qo, rfl⟩ := hq.atI encC_len (by decide) hi
      have hokc := hok c (List.mem_of_getElem? hi)
      have hb1 := hokc.2.2.2.2.le
      have hb2 := hokc.2.2.2.2.max
      refine HW_skip rfl ?_
      refine gn_sq ?_
      refine HW_seq rfl ?_
      refine HW_block rfl ?_
      refine HW_seq rfl ?_
      refine HW_text (.pure 0 (.pure 1 (.act 2 (.act 3 .done)))) (by kernel_rfl) ?_
      refine rw_p rfl rfl (y_index rfl rfl sl27 rfl (by omega) (by omega)) ?_
      refine rw_p rfl rfl (y_elA rfl ag24 (hq.ext0 hm.to).nt encC_len hi) ?_
      refine a_alloc rfl rfl z24 hm trivial fun m1 w hg_m1 hm hh => ?_
      refine a_store rfl rfl rfl rfl sz24 rfl hm 0 rfl rfl fun w hm => ?_
      refine rw_done ?_
      refine gn_sq ?_
      refine HW_seq rfl ?_
      refine HW_text (.pure 0 (.pure 1 (.act 2 (.pure 3 .done)))) (by kernel_rfl) ?_
      refine rw_p rfl rfl (y_loadA (s := 5) (vs := [_, _, _, _, _]) rfl ag24 (hm.nt 0 rfl) rfl) ?_
      refine rw_p rfl rfl (y_move rfl) ?_
      refine a_call rfl rfl rfl go9 (law_few c.cm c.d.p c.d.cap s _ hokc.cm (by have h7 : c.cm.bs.length = c.d.bs.length := rfl; omega) hs) fun v w hR => ?_
      obtain ⟨bo, rfl, hfew, hE⟩ := hR
      refine ⟨trivial, ?_⟩
      replace hm := hm.ext hE
      refine rw_p rfl rfl (y_not rfl) ?_
      refine rw_done ?_
      refine gn_sq ?_
      refine HW_cond rfl rfl (fun hc2 => ?_) (fun hc2 => ?_)
      ·
        refine HW_seq rfl ?_
        refine HW_text (.act 0 (.pure 1 .done)) (by kernel_rfl) ?_
        refine a_call rfl rfl rfl go10 (law_alive _) fun v w hR => ?_
        obtain ⟨rfl, hE⟩ := hR
        refine ⟨trivial, ?_⟩
        replace hm := hm.ext hE
        refine rw_p rfl rfl (y_assign rfl) ?_
        refine rw_done ?_
        refine gn_sq ?_
        refine HW_ret rfl ?_
        refine gr_bl (gr_sq (gr_lp (gr_bl (gr_sq ?_))))
        refine toR (fin hret rfl (.tmp rfl .nil) .one ?_)
        exact ⟨rfl, hm.to⟩
      ·
        refine HW_skip rfl ?_
        refine gn_bl ?_
        refine gn_sq ?_
        refine HW_text (.pure 0 (.pure 1 .done)) (by kernel_rfl) ?_
        refine rw_p rfl rfl (y_add rfl rfl (i64w (by omega) (by omega))) ?_
        refine rw_p rfl rfl (y_move rfl) ?_
        refine rw_done ?_
        refine next (x + 1) (by omega) ⟨hm.tail, by omega, fun j y hj hy => ?_⟩ ⟨nx x, rfl, rfl, rfl, rfl, trivial⟩
        rcases Nat.lt_or_ge j x with h | h
        · exact hno j y h hy
        · obtain rfl : j = x := by omega
          rw [hi] at hy; cases hy; exact hfew (by simpa using hc2)
    ·
      simp only [decide_eq_false_iff_not] at hc1
      have hall : ∀ c ∈ cs, Pl.ccheck c.cm = 0 ∧ c.d.bs.length ≤ 300 ∧ Pl.chCount c.cm s ≤ 300 := fun c hc => by
        obtain ⟨j, hj, e⟩ := List.getElem_of_mem hc
        exact hno j c (by omega) (by rw [← e]; exact List.getElem?_eq_getElem hj)
      have hbd : (Pl.chAll s (cs.map CmdV.cm)).length ≤ 300 * cs.length := by rw [← List.length_map (f := CmdV.cm)]; exact Pl.chAll_bnd fun c hc => by obtain ⟨d, hd, rfl⟩ := List.mem_map.1 hc; exact ⟨(hall d hd).1, (hall d hd).2.2⟩
      refine HW_exit rfl ?_
      refine gx_sq (gx_lp ?_)
      refine gx_here ?_
      refine gn_sq ?_
      refine HW_seq rfl ?_
      refine HW_text (.act 0 (.pure 1 (.pure 2 (.pure 3 (.act 4 (.pure 5 (.pure 6 (.act 7 (.act 8 (.pure 9 (.pure 10 .done))))))))))) (by kernel_rfl) ?_
      refine a_call rfl rfl rfl go10 (law_alive _) fun v w hR => ?_
      obtain ⟨rfl, hE⟩ := hR
      refine ⟨trivial, ?_⟩
      replace hm := hm.ext hE
      refine rw_p rfl rfl (y_move rfl) ?_
      refine rw_p rfl rfl (y_move rfl) ?_
      refine rw_p rfl rfl (y_move rfl) ?_
      refine a_call rfl rfl rfl go20 (ch_all s q cq cs _ (hq.ext0 hm.to) (fun c hc => ⟨(hall c hc).1, (hok c hc).2.2.2.2.ext hm.to, by have := (hall c hc).2.1; omega⟩) hs (by omega) (by omega)) fun v w hR => ?_
      obtain ⟨xs_t, p_t, n_t, cap_t, g_t, b_t, B_t, rfl, ha_t, hx_t, hh_t, hmc⟩ := hR
      refine ⟨trivial, ?_⟩
      replace hm := hm.callT1 hmc
      obtain rfl := ha_t.lenE encC_len (by decide)
      have hxl := congrArg List.length hx_t
      rw [List.length_map] at hxl
      refine rw_p rfl rfl (y_move rfl) ?_
      refine rw_p rfl rfl (y_move rfl) ?_
      refine a_call rfl rfl rfl go21 (r17_all s q cq cs _ (hq.ext0 hm.to) (fun c hc => ⟨(hall c hc).1, (hok c hc).2.2.2.2.ext hm.to, by have := (hall c hc).2.1; omega⟩) hs (by omega) (by omega)) fun v w hR => ?_
      obtain ⟨xs_u, p_u, n_u, cap_u, g_u, b_u, B_u, rfl, ha_u, hx_u, hh_u, hmc⟩ := hR
      refine ⟨trivial, ?_⟩
      replace hm := hm.callT1 hmc
      obtain rfl := ha_u.lenE encC_len (by decide)
      have hul := congrArg List.length hx_u
      rw [List.length_map] at hul
      refine a_call rfl rfl rfl go12 (C.as (v := .bool true) (r4_all p_t p_u cap_t cap_u xs_t xs_u _ (ha_t.rd hm 1 rfl) (ha_u.rd hm 0 rfl) (fun y hy => (hh_t y hy).rd hm (by intro e he; simp [he])) (fun y hy => (hh_u y hy).rd hm (by intro e he; simp [he])) (by omega) (by omega)) (congrArg Value.bool (by rw [hx_t, hx_u]; simp))) fun v w hR => ?_
      obtain ⟨rfl, hE⟩ := hR
      refine ⟨trivial, ?_⟩
      replace hm := hm.ext hE
      refine rw_p rfl rfl (y_pickT rfl rfl) ?_
      refine rw_p rfl rfl (y_assign rfl) ?_
      refine rw_done ?_
      refine gn_sq ?_
      refine HW_ret rfl ?_
      refine toR (fin hret rfl (.tmp rfl .nil) .one ?_)
      exact ⟨rfl, hm.to⟩

end Go.Proofs.Ytcngaknlagocdaa
