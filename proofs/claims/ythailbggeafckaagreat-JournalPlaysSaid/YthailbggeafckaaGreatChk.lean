/- Contracts of functions of the program: what each returns. Conditions: the hypotheses of each theorem. -/
import Derived.Test.YthailbggeafckaaGreatWire
set_option linter.unusedVariables false
set_option linter.unusedSimpArgs false
namespace Go.Proofs.YthailbggeafckaaGreat
open Go Go.Cx

theorem ag182 : aggS Tryz.prog 182 = some 16 := by kernel_rfl
theorem ar182 : arrO Tryz.prog 182 = some (16, 167, 1) := by kernel_rfl
theorem is3 : (Tryz.prog.underlying 3).isSome = true := by kernel_rfl
theorem it167 : intO Tryz.prog 167 = some .u32 := by kernel_rfl
theorem sz182 : szO Tryz.prog 182 = some 16 := by kernel_rfl
theorem z182 : zer Tryz.prog 182 = some [.int .u32 0, .int .u32 0, .int .u32 0, .int .u32 0, .int .u32 0, .int .u32 0, .int .u32 0, .int .u32 0, .int .u32 0, .int .u32 0, .int .u32 0, .int .u32 0, .int .u32 0, .int .u32 0, .int .u32 0, .int .u32 0] := by kernel_rfl
theorem sz167 : szO Tryz.prog 167 = some 1 := by kernel_rfl
theorem go108 : isGo Tryz.prog 108 = true := by kernel_rfl
theorem sc167 : scal Tryz.prog 167 = true := by kernel_rfl
theorem sl89 : slcO Tryz.prog 89 = some (22, 1, 24) := by kernel_rfl
theorem go106 : isGo Tryz.prog 106 = true := by kernel_rfl
theorem go96 : isGo Tryz.prog 96 = true := by kernel_rfl
theorem is167 : (Tryz.prog.underlying 167).isSome = true := by kernel_rfl
theorem z22 : zer Tryz.prog 22 = some [.slice none 0 0] := by kernel_rfl
theorem go107 : isGo Tryz.prog 107 = true := by kernel_rfl
theorem go104 : isGo Tryz.prog 104 = true := by kernel_rfl
theorem go85 : isGo Tryz.prog 85 = true := by kernel_rfl

set_option maxHeartbeats 800000 in
theorem k_table (w0 : World) : C Tryz.prog 108 [] w0 fun v w' => v = .agg ⟨tabL 16⟩ ∧ Ext No w0 w' := by
  refine C_of Tryz.func108 rfl rfl rfl fun κ hret hnorm => ?_
  have hm := Mem.start w0
  refine HW_seq rfl ?_
  refine HW_text (.act 0 .done) (by kernel_rfl) ?_
  refine a_alloc rfl rfl z182 hm trivial fun m1 w hg_m1 hm hh => ?_
  refine rw_done ?_
  refine gn_sq ?_
  refine HW_seq rfl ?_
  refine HW_text (.act 0 .done) (by kernel_rfl) ?_
  refine a_alloc rfl rfl z182 hm trivial fun m2 w hg_m2 hm hh => ?_
  refine rw_done ?_
  refine gn_sq ?_
  refine HW_seq rfl ?_
  refine HW_seq rfl ?_
  refine HW_text (.pure 0 .done) (by kernel_rfl) ?_
  refine rw_p rfl rfl (y_move rfl) ?_
  refine rw_done ?_
  refine gn_sq ?_
  refine HW_block rfl ?_
  refine HW_loopK (ι := Nat) rfl (ks := [0, 1]) (.cons rfl (.cons rfl .nil)) (fun x => [(4, .int .i64 x)]) (fun x w => Mem w0 w No [(m2, .row 182 (tabL x)), (m1, .row 182 [.int .u32 0, .int .u32 0, .int .u32 0, .int .u32 0, .int .u32 0, .int .u32 0, .int .u32 0, .int .u32 0, .int .u32 0, .int .u32 0, .int .u32 0, .int .u32 0, .int .u32 0, .int .u32 0, .int .u32 0, .int .u32 0])] ∧ x ≤ 16) (fun x => 16 - x) 0 (⟨hm, Nat.zero_le _⟩) ⟨rfl, trivial⟩ (fun x w hM => ?_)
  obtain ⟨hm, hk⟩ := hM
  refine HW_seq rfl ?_
  refine HW_text (.pure 0 .done) (by kernel_rfl) ?_
  refine rw_p rfl rfl (y_lt rfl rfl) ?_
  refine rw_done ?_
  refine gn_sq ?_
  refine HW_seq rfl ?_
  refine HW_cond rfl rfl (fun hc0 => ?_) (fun hc0 => ?_)
  ·
    simp only [decide_eq_true_eq] at hc0
    refine HW_skip rfl ?_
    refine gn_sq ?_
    refine HW_seq rfl ?_
    refine HW_block rfl ?_
    refine HW_seq rfl ?_
    refine HW_text (.pure 0 (.pure 1 .done)) (by kernel_rfl) ?_
    refine rw_p rfl rfl (y_move rfl) ?_
    refine rw_p rfl rfl (y_assign rfl) ?_
    refine rw_done ?_
    refine gn_sq ?_
    refine HW_seq rfl ?_
    refine HW_text (.pure 0 (.pure 1 (.pure 2 .done))) (by kernel_rfl) ?_
    refine rw_p rfl rfl (y_move rfl) ?_
    refine rw_p rfl rfl (y_conv rfl is3 it167 (w_ofN (by omega))) ?_
    refine rw_p rfl rfl (y_assign rfl) ?_
    refine rw_done ?_
    refine gn_sq ?_
    refine HW_seq rfl ?_
    refine HW_seq rfl ?_
    refine HW_text (.pure 0 .done) (by kernel_rfl) ?_
    refine rw_p rfl rfl (y_move rfl) ?_
    refine rw_done ?_
    refine gn_sq ?_
    refine HW_block rfl ?_
    refine HW_loopK (ι := Nat) rfl (ks := [0, 1, 2, 4]) (.cons rfl (.cons rfl (.cons rfl (.cons rfl .nil)))) (fun y => [(9, .int .i64 y), (3, .int .u32 ((crcN y (UInt32.ofNat x)).toNat : Int))]) (fun y w => Mem w0 w No [(m2, .row 182 (tabL x)), (m1, .row 182 [.int .u32 0, .int .u32 0, .int .u32 0, .int .u32 0, .int .u32 0, .int .u32 0, .int .u32 0, .int .u32 0, .int .u32 0, .int .u32 0, .int .u32 0, .int .u32 0, .int .u32 0, .int .u32 0, .int .u32 0, .int .u32 0])] ∧ y ≤ 4) (fun y => 4 - y) 0 (⟨hm, Nat.zero_le _⟩) ⟨rfl, rfl, trivial⟩ (fun y w hM => ?_)
    obtain ⟨hm, hy⟩ := hM
    refine HW_seq rfl ?_
    refine HW_text (.pure 0 .done) (by kernel_rfl) ?_
    refine rw_p rfl rfl (y_lt rfl rfl) ?_
    refine rw_done ?_
    refine gn_sq ?_
    refine HW_seq rfl ?_
    refine HW_cond rfl rfl (fun hc1 => ?_) (fun hc1 => ?_)
    ·
      simp only [decide_eq_true_eq] at hc1
      refine HW_skip rfl ?_
      refine gn_sq ?_
      refine HW_seq rfl ?_
      refine HW_block rfl ?_
      refine HW_text (.pure 0 (.pure 1 (.pure 2 (.pure 3 (.pure 4 (.pure 5 (.pure 6 (.pure 7 .done)))))))) (by kernel_rfl) ?_
      refine rw_p rfl rfl (y_move rfl) ?_
      refine rw_p rfl rfl (y_shr rfl rfl (by decide) (w_shr 1 rfl (by decide))) ?_
      refine rw_p rfl rfl (y_move rfl) ?_
      refine rw_p rfl rfl (y_and_ rfl (cW 1 rfl) w_and) ?_
      refine rw_p rfl rfl (y_neg rfl w_neg) ?_
      refine rw_p rfl rfl (y_and_ (cW 3988292384 rfl) rfl w_and) ?_
      refine rw_p rfl rfl (y_xor_ rfl rfl w_xor) ?_
      refine rw_p rfl rfl (y_assign rfl) ?_
      refine rw_done ?_
      refine gn_bl ?_
      refine gn_sq ?_
      refine HW_text (.pure 0 (.pure 1 .done)) (by kernel_rfl) ?_
      refine rw_p rfl rfl (y_add rfl rfl (i64w (by omega) (by omega))) ?_
      refine rw_p rfl rfl (y_move rfl) ?_
      refine rw_done ?_
      refine next (y + 1) (by omega) ⟨hm, by omega⟩ ⟨nx y, rfl, rfl, rfl, rfl, rfl, trivial⟩
    ·
      simp only [decide_eq_false_iff_not] at hc1
      obtain rfl : y = 4 := by omega
      refine HW_exit rfl ?_
      refine gx_sq (gx_lp ?_)
      refine gx_here ?_
      refine gn_sq ?_
      refine HW_text (.pure 0 (.pure 1 (.pure 2 (.act 3 .done)))) (by kernel_rfl) ?_
      refine rw_p rfl rfl (y_move rfl) ?_
      refine rw_p rfl rfl (y_move rfl) ?_
      refine rw_p rfl rfl (y_indexP rfl rfl ar182 (by omega) (by omega)) ?_
      refine a_store rfl rfl rfl rfl sz167 rfl hm 0 rfl (by rw [Nat.ble_eq, tab_len]; simp only [List.length_singleton]; omega) fun w hm => ?_
      have hm2 : Mem w0 w No [(m2, .row 182 (upds (tabL x) (0 + ((x : Nat) : Int).toNat * 1) [.int .u32 ((Pl.crc4 (UInt32.ofNat x)).toNat : Int)])), (m1, .row 182 [.int .u32 0, .int .u32 0, .int .u32 0, .int .u32 0, .int .u32 0, .int .u32 0, .int .u32 0, .int .u32 0, .int .u32 0, .int .u32 0, .int .u32 0, .int .u32 0, .int .u32 0, .int .u32 0, .int .u32 0, .int .u32 0])] := hm
      rw [tab_set (by omega)] at hm2
      refine rw_done ?_
      refine gn_bl ?_
      refine gn_sq ?_
      refine HW_text (.pure 0 (.pure 1 .done)) (by kernel_rfl) ?_
      refine rw_p rfl rfl (y_add rfl rfl (i64w (by omega) (by omega))) ?_
      refine rw_p rfl rfl (y_move rfl) ?_
      refine rw_done ?_
      refine next (x + 1) (by omega) ⟨hm2, by omega⟩ ⟨nx x, rfl, rfl, trivial⟩
  ·
    simp only [decide_eq_false_iff_not] at hc0
    obtain rfl : x = 16 := by omega
    refine HW_exit rfl ?_
    refine gx_sq (gx_lp ?_)
    refine gx_here ?_
    refine gn_sq ?_
    refine HW_seq rfl ?_
    refine HW_text (.pure 0 (.act 1 .done)) (by kernel_rfl) ?_
    refine rw_p rfl rfl (y_loadA (s := 16) (vs := [_, _, _, _, _, _, _, _, _, _, _, _, _, _, _, _]) rfl ag182 (hm.nt 0 rfl) rfl) ?_
    refine a_store rfl rfl rfl rfl sz182 rfl hm 1 rfl rfl fun w hm => ?_
    refine rw_done ?_
    refine gn_sq ?_
    refine HW_ret rfl ?_
    refine toR (fin hret rfl (.cell rfl (run_loadVar_a (vs := [_, _, _, _, _, _, _, _, _, _, _, _, _, _, _, _]) ag182 (hm.get (k := 1) rfl) rfl) .nil) .one ?_)
    exact ⟨rfl, hm.to⟩

set_option maxHeartbeats 800000 in
theorem k_extend (sum : UInt32) (q : Option Addr) (cq : Nat) (ps : List SB) (w0 : World) (hq : Rd w0 q (ps.flatMap encS)) (hps : ∀ s ∈ ps, Rd w0 s.p (s.bs.flatMap encB)) (hl : ps.length ≤ 4611686018427387903) (hlb : ∀ s ∈ ps, s.bs.length ≤ 4611686018427387903) : C Tryz.prog 106 [.int .u32 ((sum).toNat : Int), .slice q ps.length cq] w0 fun v w' => v = .int .u32 ((~~~ (Pl.crcReg (~~~ sum) (ps.flatMap (·.bs)))).toNat : Int) ∧ Ext No w0 w' := by
  refine C_of Tryz.func106 rfl rfl rfl fun κ hret hnorm => ?_
  have hm := Mem.start w0
  refine HW_seq rfl ?_
  refine HW_text (.pure 0 .done) (by kernel_rfl) ?_
  refine rw_p rfl rfl (y_assign (cW 0 rfl)) ?_
  refine rw_done ?_
  refine gn_sq ?_
  refine HW_seq rfl ?_
  refine HW_text (.act 0 (.act 1 (.act 2 .done))) (by kernel_rfl) ?_
  refine a_call rfl rfl rfl go108 (k_table _) fun v w hR => ?_
  obtain ⟨rfl, hE⟩ := hR
  refine ⟨trivial, ?_⟩
  replace hm := hm.ext hE
  refine a_alloc rfl rfl z182 hm trivial fun m1 w hg_m1 hm hh => ?_
  refine a_store rfl rfl rfl rfl sz182 rfl hm 0 rfl rfl fun w hm => ?_
  replace hm : Mem w0 w No [(m1, .row 182 (tabL 16))] := hm
  refine rw_done ?_
  refine gn_sq ?_
  refine HW_seq rfl ?_
  refine HW_text (.pure 0 (.pure 1 (.pure 2 .done))) (by kernel_rfl) ?_
  refine rw_p rfl rfl (y_move rfl) ?_
  refine rw_p rfl rfl (y_com rfl rfl w_com) ?_
  refine rw_p rfl rfl (y_assign rfl) ?_
  refine rw_done ?_
  refine gn_sq ?_
  refine HW_seq rfl ?_
  refine HW_seq rfl ?_
  refine HW_text (.pure 0 (.pure 1 (.pure 2 .done))) (by kernel_rfl) ?_
  refine rw_p rfl rfl (y_move rfl) ?_
  refine rw_p rfl rfl (y_len rfl rfl sl89) ?_
  refine rw_p rfl rfl (y_move rfl) ?_
  refine rw_done ?_
  refine gn_sq ?_
  refine HW_block rfl ?_
  refine HW_loopK (ι := Nat) rfl (ks := [4, 5, 14, 15]) (.cons rfl (.cons rfl (.cons rfl (.cons rfl .nil)))) (fun x => [(16, .int .i64 x), (6, .int .u32 (((Pl.crcReg (~~~ sum) ((ps.take x).flatMap (·.bs)))).toNat : Int))]) (fun x w => Mem w0 w No [(m1, .row 182 (tabL 16))] ∧ x ≤ ps.length) (fun x => ps.length - x) 0 (⟨hm, Nat.zero_le _⟩) ⟨rfl, rfl, trivial⟩ (fun x w hM => ?_)
  obtain ⟨hm, hk⟩ := hM
  refine HW_seq rfl ?_
  refine HW_text (.pure 0 .done) (by kernel_rfl) ?_
  refine rw_p rfl rfl (y_lt rfl rfl) ?_
  refine rw_done ?_
  refine gn_sq ?_
  refine HW_seq rfl ?_
  refine HW_cond rfl rfl (fun hc0 => ?_) (fun hc0 => ?_)
  ·
    simp only [decide_eq_true_eq] at hc0
    obtain ⟨s, hi⟩ : ∃ y_, ps[x]? = some y_ := ⟨_, List.getElem?_eq_getElem (by omega)⟩
    obtain ⟨qb, qo, rfl⟩ := hq.atI encS_len (by decide) hi
    have hsl := hlb s (List.mem_of_getElem? hi)
    have hnx : (Pl.crcReg (~~~ sum) ((ps.take (x + 1)).flatMap (·.bs))) = Pl.crcReg (Pl.crcReg (~~~ sum) ((ps.take x).flatMap (·.bs))) s.bs := by rw [List.take_add_one, hi]; simp only [Option.toList, List.flatMap_append, List.flatMap_cons, List.flatMap_nil, List.append_nil, Pl.crcReg_app]
    refine HW_skip rfl ?_
    refine gn_sq ?_
    refine HW_seq rfl ?_
    refine HW_block rfl ?_
    refine HW_seq rfl ?_
    refine HW_text (.pure 0 (.pure 1 (.pure 2 .done))) (by kernel_rfl) ?_
    refine rw_p rfl rfl (y_index rfl rfl sl89 rfl (by omega) (by omega)) ?_
    refine rw_p rfl rfl (y_el1 rfl sc22 (hq.ext0 hm.to).nt encS_len hi rfl) ?_
    refine rw_p rfl rfl (y_assign rfl) ?_
    refine rw_done ?_
    refine gn_sq ?_
    refine HW_seq rfl ?_
    refine HW_text (.pure 0 (.pure 1 (.pure 2 .done))) (by kernel_rfl) ?_
    refine rw_p rfl rfl (y_move rfl) ?_
    refine rw_p rfl rfl (y_len rfl rfl sl22) ?_
    refine rw_p rfl rfl (y_move rfl) ?_
    refine rw_done ?_
    refine gn_sq ?_
    refine HW_block rfl ?_
    refine HW_loopK (ι := Nat) rfl (ks := [4, 5, 14, 15, 16, 20, 21]) (.cons rfl (.cons rfl (.cons rfl (.cons rfl (.cons rfl (.cons rfl (.cons rfl .nil))))))) (fun y => [(22, .int .i64 y), (6, .int .u32 ((Pl.crcReg (Pl.crcReg (~~~ sum) ((ps.take x).flatMap (·.bs))) (s.bs.take y)).toNat : Int))]) (fun y w => Mem w0 w No [(m1, .row 182 (tabL 16))] ∧ y ≤ s.bs.length) (fun y => s.bs.length - y) 0 (⟨hm, Nat.zero_le _⟩) ⟨rfl, rfl, trivial⟩ (fun y w hM => ?_)
    obtain ⟨hm, hy⟩ := hM
    refine HW_seq rfl ?_
    refine HW_text (.pure 0 .done) (by kernel_rfl) ?_
    refine rw_p rfl rfl (y_lt rfl rfl) ?_
    refine rw_done ?_
    refine gn_sq ?_
    refine HW_seq rfl ?_
    refine HW_cond rfl rfl (fun hc1 => ?_) (fun hc1 => ?_)
    ·
      simp only [decide_eq_true_eq] at hc1
      obtain ⟨c, hj⟩ : ∃ y_, s.bs[y]? = some y_ := ⟨_, List.getElem?_eq_getElem (by omega)⟩
      obtain ⟨b2, o2, hp2⟩ := (hps s (List.mem_of_getElem? hi)).atI encB_len (by decide) hj
      refine HW_skip rfl ?_
      refine gn_sq ?_
      refine HW_seq rfl ?_
      refine HW_block rfl ?_
      refine HW_seq rfl ?_
      refine HW_text (.pure 0 (.pure 1 (.pure 2 .done))) (by kernel_rfl) ?_
      refine rw_p rfl rfl (y_index rfl rfl sl22 hp2 (by omega) (by omega)) ?_
      refine rw_p rfl rfl (y_el1 rfl sc5 (hp2 ▸ (hps s (List.mem_of_getElem? hi)).ext0 hm.to).nt encB_len hj rfl) ?_
      refine rw_p rfl rfl (y_assign rfl) ?_
      refine rw_done ?_
      refine gn_sq ?_
      refine HW_seq rfl ?_
      refine HW_text (.pure 0 (.pure 1 (.pure 2 (.pure 3 (.pure 4 .done))))) (by kernel_rfl) ?_
      refine rw_p rfl rfl (y_move rfl) ?_
      refine rw_p rfl rfl (y_move rfl) ?_
      refine rw_p rfl rfl (y_conv rfl is5 it167 w_of8) ?_
      refine rw_p rfl rfl (y_xor_ rfl rfl w_xor) ?_
      refine rw_p rfl rfl (y_assign rfl) ?_
      refine rw_done ?_
      refine gn_sq ?_
      refine HW_seq rfl ?_
      refine HW_text (.pure 0 (.pure 1 (.pure 2 (.pure 3 (.pure 4 (.pure 5 (.pure 6 (.pure 7 .done)))))))) (by kernel_rfl) ?_
      refine rw_p rfl rfl (y_move rfl) ?_
      refine rw_p rfl rfl (y_shr rfl rfl (by decide) (w_shr 4 rfl (by decide))) ?_
      refine rw_p rfl rfl (y_move rfl) ?_
      refine rw_p rfl rfl (y_and_ rfl (cW 15 rfl) w_and) ?_
      refine rw_p rfl rfl (y_indexP rfl rfl ar182 (Int.natCast_nonneg _) (by rw [Pl.and15]; omega)) ?_
      refine rw_p rfl rfl (y_load rfl sc167 (hm.nt 0 rfl) (tab_get _ (by rw [Pl.and15]; omega))) ?_
      refine rw_p rfl rfl (y_xor_ rfl rfl w_xor) ?_
      refine rw_p rfl rfl (y_assign rfl) ?_
      refine rw_done ?_
      refine gn_sq ?_
      refine HW_text (.pure 0 (.pure 1 (.pure 2 (.pure 3 (.pure 4 (.pure 5 (.pure 6 (.pure 7 .done)))))))) (by kernel_rfl) ?_
      refine rw_p rfl rfl (y_move rfl) ?_
      refine rw_p rfl rfl (y_shr rfl rfl (by decide) (w_shr 4 rfl (by decide))) ?_
      refine rw_p rfl rfl (y_move rfl) ?_
      refine rw_p rfl rfl (y_and_ rfl (cW 15 rfl) w_and) ?_
      refine rw_p rfl rfl (y_indexP rfl rfl ar182 (Int.natCast_nonneg _) (by rw [Pl.and15]; omega)) ?_
      refine rw_p rfl rfl (y_load rfl sc167 (hm.nt 0 rfl) (tab_get _ (by rw [Pl.and15]; omega))) ?_
      refine rw_p rfl rfl (y_xor_ rfl rfl w_xor) ?_
      refine rw_p rfl rfl (y_assign rfl) ?_
      refine rw_done ?_
      refine gn_bl ?_
      refine gn_sq ?_
      refine HW_text (.pure 0 (.pure 1 .done)) (by kernel_rfl) ?_
      refine rw_p rfl rfl (y_add rfl rfl (i64w (by omega) (by omega))) ?_
      refine rw_p rfl rfl (y_move rfl) ?_
      refine rw_done ?_
      refine next (y + 1) (by omega) ⟨hm, by omega⟩ ⟨nx y, by rw [crcReg_next hj, ← crc_byte]; rfl, rfl, rfl, rfl, rfl, rfl, rfl, rfl, trivial⟩
    ·
      simp only [decide_eq_false_iff_not] at hc1
      have hye : s.bs.take y = s.bs := List.take_of_length_le (by omega)
      rw [← hye] at hnx
      refine HW_exit rfl ?_
      refine gx_sq (gx_lp ?_)
      refine gx_here ?_
      refine gn_bl ?_
      refine gn_sq ?_
      refine HW_text (.pure 0 (.pure 1 .done)) (by kernel_rfl) ?_
      refine rw_p rfl rfl (y_add rfl rfl (i64w (by omega) (by omega))) ?_
      refine rw_p rfl rfl (y_move rfl) ?_
      refine rw_done ?_
      refine next (x + 1) (by omega) ⟨hm, by omega⟩ ⟨nx x, by rw [hnx, hye]; rfl, rfl, rfl, rfl, rfl, trivial⟩
  ·
    simp only [decide_eq_false_iff_not] at hc0
    obtain rfl : x = ps.length := by omega
    refine HW_exit rfl ?_
    refine gx_sq (gx_lp ?_)
    refine gx_here ?_
    refine gn_sq ?_
    refine HW_seq rfl ?_
    refine HW_text (.pure 0 (.pure 1 (.pure 2 .done))) (by kernel_rfl) ?_
    refine rw_p rfl rfl (y_move rfl) ?_
    refine rw_p rfl rfl (y_com rfl rfl w_com) ?_
    refine rw_p rfl rfl (y_assign rfl) ?_
    refine rw_done ?_
    refine gn_sq ?_
    refine HW_ret rfl ?_
    refine toR (fin hret rfl (.tmp rfl .nil) .one ?_)
    exact ⟨by rw [List.take_length], hm.to⟩

theorem k_of (q : Option Addr) (cq : Nat) (ps : List SB) (w0 : World) (hq : Rd w0 q (ps.flatMap encS)) (hps : ∀ s ∈ ps, Rd w0 s.p (s.bs.flatMap encB)) (hl : ps.length ≤ 4611686018427387903) (hlb : ∀ s ∈ ps, s.bs.length ≤ 4611686018427387903) : C Tryz.prog 96 [.slice q ps.length cq] w0 fun v w' => v = .int .u32 ((Pl.crc (ps.flatMap (·.bs))).toNat : Int) ∧ Ext No w0 w' := by
  refine C_of Tryz.func96 rfl rfl rfl fun κ hret hnorm => ?_
  have hm := Mem.start w0
  refine HW_seq rfl ?_
  refine HW_text (.pure 0 .done) (by kernel_rfl) ?_
  refine rw_p rfl rfl (y_assign (cW 0 rfl)) ?_
  refine rw_done ?_
  refine gn_sq ?_
  refine HW_seq rfl ?_
  refine HW_text (.pure 0 (.act 1 (.pure 2 .done))) (by kernel_rfl) ?_
  refine rw_p rfl rfl (y_move rfl) ?_
  refine a_call rfl rfl (evs_c (cW 0 rfl) (evs_c rfl evs_n)) go106 (k_extend 0 q cq ps _ (hq.ext0 hm.to) (fun s hs => (hps s hs).ext0 hm.to) hl hlb) fun v w hR => ?_
  obtain ⟨rfl, hE⟩ := hR
  refine ⟨trivial, ?_⟩
  replace hm := hm.ext hE
  refine rw_p rfl rfl (y_assign rfl) ?_
  refine rw_done ?_
  refine gn_sq ?_
  refine HW_ret rfl ?_
  refine toR (fin hret rfl (.tmp rfl .nil) .one ?_)
  exact ⟨rfl, hm.to⟩

set_option maxHeartbeats 400000 in
theorem k_seal (p : Option Addr) (cap : Nat) (bs : List UInt8) (w0 : World) (hx : Rd w0 p (bs.flatMap encB)) (hle : bs.length ≤ cap) (hsp : cap ≠ 0 → ∀ ad, p = some ad → ad.spot = none) (hl : bs.length ≤ 70368744177664) : C Tryz.prog 74 [.slice p bs.length cap] w0 fun v w' => ∃ q c g b, v = .slice q (bs ++ Pl.leS (Pl.crc bs)).length c ∧ Acc 5 1 q (bs ++ Pl.leS (Pl.crc bs)).length c ((bs ++ Pl.leS (Pl.crc bs)).flatMap encB) g b ∧ Mem w0 w' No [(g, b)] := by
  refine C_of Tryz.func74 rfl rfl rfl fun κ hret hnorm => ?_
  have hm := Mem.start w0
  refine HW_seq rfl ?_
  refine HW_text (.pure 0 .done) (by kernel_rfl) ?_
  refine rw_p rfl rfl (y_assign rfl) ?_
  refine rw_done ?_
  refine gn_sq ?_
  refine HW_seq rfl ?_
  refine HW_text (.pure 0 (.act 1 (.act 2 (.pure 3 .done)))) (by kernel_rfl) ?_
  refine rw_p rfl rfl (y_move rfl) ?_
  refine a_buildSlice (l := [_]) rfl rfl sl89 z22 rfl rfl rfl rfl rfl rfl rfl hm trivial fun m1 w hg_m1 hm hh => ?_
  refine a_call rfl rfl rfl go96 (C.as (v := .int .u32 ((Pl.crc bs).toNat : Int)) (k_of _ 1 [⟨p, cap, bs⟩] _ (Rd.row0 (hm.get (k := 0) rfl)) (by simp only [List.mem_singleton]; rintro _ rfl; exact hx.ext0 hm.to) (by simp) (by simp only [List.mem_singleton]; rintro _ rfl; simp only; omega)) (by simp only [List.flatMap_cons, List.flatMap_nil, List.append_nil])) fun v w hR => ?_
  obtain ⟨rfl, hE⟩ := hR
  refine ⟨trivial, ?_⟩
  replace hm := hm.ext hE
  refine rw_p rfl rfl (y_assign rfl) ?_
  refine rw_done ?_
  refine gn_sq ?_
  refine HW_seq rfl ?_
  refine HW_text (.pure 0 (.pure 1 (.pure 2 (.pure 3 (.pure 4 (.pure 5 (.pure 6 (.pure 7 (.pure 8 (.pure 9 (.pure 10 (.pure 11 (.pure 12 (.pure 13 (.pure 14 (.pure 15 (.pure 16 (.act 17 (.act 18 (.pure 19 .done)))))))))))))))))))) (by kernel_rfl) ?_
  refine rw_p rfl rfl (y_move rfl) ?_
  refine rw_p rfl rfl (y_move rfl) ?_
  refine rw_p rfl rfl (y_len rfl rfl sl22) ?_
  refine rw_p rfl rfl (y_move rfl) ?_
  refine rw_p rfl rfl (y_len rfl rfl sl22) ?_
  refine rw_p rfl rfl (y_slice3 rfl sl22 rfl rfl (Nat.le_refl _) hle) ?_
  refine rw_p rfl rfl (y_move rfl) ?_
  refine rw_p rfl rfl (y_conv rfl is167 it5 w_u8) ?_
  refine rw_p rfl rfl (y_move rfl) ?_
  refine rw_p rfl rfl (y_shr rfl rfl (by decide) (w_shr 8 rfl (by decide))) ?_
  refine rw_p rfl rfl (y_conv rfl is167 it5 w_u8) ?_
  refine rw_p rfl rfl (y_move rfl) ?_
  refine rw_p rfl rfl (y_shr rfl rfl (by decide) (w_shr 16 rfl (by decide))) ?_
  refine rw_p rfl rfl (y_conv rfl is167 it5 w_u8) ?_
  refine rw_p rfl rfl (y_move rfl) ?_
  refine rw_p rfl rfl (y_shr rfl rfl (by decide) (w_shr 24 rfl (by decide))) ?_
  refine rw_p rfl rfl (y_conv rfl is167 it5 w_u8) ?_
  refine a_buildSlice (l := [_, _, _, _]) rfl rfl sl22 z5 rfl rfl rfl rfl rfl rfl rfl hm trivial fun m2 w hg_m2 hm hh => ?_
  refine a_appendF rfl rfl rfl rfl rfl rfl sl22 sl22 z5 rfl (Rd.row0 (hm.get (k := 0) rfl)) rfl (hx.ext0 hm.to) (lenB bs) (by omega) hm (by omega) (by omega) fun cap_s g_s b_s w ha_s hm => ?_
  refine rw_p rfl rfl (y_assign rfl) ?_
  refine rw_done ?_
  refine gn_sq ?_
  refine HW_ret rfl ?_
  refine toR (fin hret rfl (.tmp rfl .nil) .one ?_)
  exact ⟨_, cap_s, g_s, b_s, by rw [List.length_append]; rfl, by rw [List.length_append]; exact ha_s.to (by simp only [List.flatMap_append]; rfl), (hm.pick [0] rfl)⟩

set_option maxHeartbeats 800000 in
theorem k_open (p : Option Addr) (cap : Nat) (bs : List UInt8) (w0 : World) (hx : Rd w0 p (bs.flatMap encB)) (hle : bs.length ≤ cap) (hsp : cap ≠ 0 → ∀ ad, p = some ad → ad.spot = none) (hl : bs.length ≤ 70368744177664) : C Tryz.prog 59 [.slice p bs.length cap] w0 fun v w' => ∃ q c g b, v = .tuple ⟨[.slice q (if (decide (4 ≤ bs.length) && decide ((bs.drop (bs.length - 4)) = Pl.leS (Pl.crc (bs.take (bs.length - 4))))) = true then (bs.take (bs.length - 4)) else []).length c, .bool (decide (4 ≤ bs.length) && decide ((bs.drop (bs.length - 4)) = Pl.leS (Pl.crc (bs.take (bs.length - 4)))))]⟩ ∧ Acc 5 1 q (if (decide (4 ≤ bs.length) && decide ((bs.drop (bs.length - 4)) = Pl.leS (Pl.crc (bs.take (bs.length - 4))))) = true then (bs.take (bs.length - 4)) else []).length c ((if (decide (4 ≤ bs.length) && decide ((bs.drop (bs.length - 4)) = Pl.leS (Pl.crc (bs.take (bs.length - 4))))) = true then (bs.take (bs.length - 4)) else []).flatMap encB) g b ∧ Mem w0 w' No [(g, b)] := by
  refine C_of Tryz.func59 rfl rfl rfl fun κ hret hnorm => ?_
  have hm := Mem.start w0
  refine HW_seq rfl ?_
  refine HW_text (.pure 0 (.pure 1 .done)) (by kernel_rfl) ?_
  refine rw_p rfl rfl (y_assign rfl) ?_
  refine rw_p rfl rfl (y_assign rfl) ?_
  refine rw_done ?_
  refine gn_sq ?_
  refine HW_seq rfl ?_
  refine HW_text (.pure 0 (.pure 1 (.pure 2 (.pure 3 .done)))) (by kernel_rfl) ?_
  refine rw_p rfl rfl (y_move rfl) ?_
  refine rw_p rfl rfl (y_len rfl rfl sl22) ?_
  refine rw_p rfl rfl (y_sub rfl rfl (i64w (by omega) (by omega))) ?_
  refine rw_p rfl rfl (y_assign rfl) ?_
  refine rw_done ?_
  refine gn_sq ?_
  refine HW_seq rfl ?_
  refine HW_seq rfl ?_
  refine HW_text (.pure 0 (.pure 1 .done)) (by kernel_rfl) ?_
  refine rw_p rfl rfl (y_move rfl) ?_
  refine rw_p rfl rfl (y_lt rfl rfl) ?_
  refine rw_done ?_
  refine gn_sq ?_
  refine HW_cond rfl rfl (fun hc0 => ?_) (fun hc0 => ?_)
  ·
    simp only [decide_eq_true_eq] at hc0
    have hop : (decide (4 ≤ bs.length) && decide ((bs.drop (bs.length - 4)) = Pl.leS (Pl.crc (bs.take (bs.length - 4))))) = false := by rw [decide_eq_false (by omega)]; rfl
    refine HW_seq rfl ?_
    refine HW_text (.pure 0 (.pure 1 .done)) (by kernel_rfl) ?_
    refine rw_p rfl rfl (y_assign rfl) ?_
    refine rw_p rfl rfl (y_assign rfl) ?_
    refine rw_done ?_
    refine gn_sq ?_
    refine HW_ret rfl ?_
    refine gr_sq ?_
    refine toR (fin hret rfl (.tmp rfl (.tmp rfl .nil)) .more ?_)
    exact ⟨none, 0, 0, .gap, by rw [hop]; rfl, by rw [hop]; exact .nil _ _ _ _, (hm.drop (List.nil_sublist _)).gapIn⟩
  ·
    simp only [decide_eq_false_iff_not] at hc0
    have htl : (bs.take (bs.length - 4)).length = bs.length - 4 := by rw [List.length_take]; omega
    have hdl : (bs.drop (bs.length - 4)).length = 4 := by rw [List.length_drop]; omega
    refine HW_skip rfl ?_
    refine gn_sq ?_
    refine HW_seq rfl ?_
    refine HW_text (.pure 0 (.pure 1 (.pure 2 (.act 3 (.act 4 (.pure 5 .done)))))) (by kernel_rfl) ?_
    refine rw_p rfl rfl (y_move rfl) ?_
    refine rw_p rfl rfl (y_move rfl) ?_
    refine rw_p rfl rfl (y_v (y_slice (ln := 0) (hn := (bs.length - 4)) rfl sl22 rfl ⟨_, congrArg (fun x => some (Value.int .i64 x)) (by omega)⟩ (by omega) (by omega) (fun h => hsp (by omega))) (show _ = Value.slice (slp p cap 0 1) (bs.take (bs.length - 4)).length cap by rw [htl, Nat.sub_zero, Nat.sub_zero])) ?_
    refine a_buildSlice (l := [_]) rfl rfl sl89 z22 rfl rfl rfl rfl rfl rfl rfl hm trivial fun m1 w hg_m1 hm hh => ?_
    refine a_call rfl rfl rfl go96 (C.as (v := .int .u32 ((Pl.crc (bs.take (bs.length - 4))).toNat : Int)) (k_of _ 1 [⟨(slp p cap 0 1), cap, (bs.take (bs.length - 4))⟩] _ (Rd.row0 (hm.get (k := 0) rfl)) (by simp only [List.mem_singleton]; rintro _ rfl; exact (hx.ext0 hm.to).takeS hle) (by simp) (by simp only [List.mem_singleton]; rintro _ rfl; simp only; omega)) (by simp only [List.flatMap_cons, List.flatMap_nil, List.append_nil])) fun v w hR => ?_
    obtain ⟨rfl, hE⟩ := hR
    refine ⟨trivial, ?_⟩
    replace hm := hm.ext hE
    refine rw_p rfl rfl (y_assign rfl) ?_
    refine rw_done ?_
    refine gn_sq ?_
    refine HW_seq rfl ?_
    refine HW_seq rfl ?_
    refine HW_text (.pure 0 (.pure 1 (.pure 2 (.pure 3 (.pure 4 .done))))) (by kernel_rfl) ?_
    refine rw_p rfl rfl (y_move rfl) ?_
    refine rw_p rfl rfl (y_move rfl) ?_
    refine rw_p rfl rfl (y_v (y_slice (ln := (bs.length - 4)) (hn := bs.length) rfl sl22 ⟨_, congrArg (fun x => some (Value.int .i64 x)) (by omega)⟩ rfl (by omega) hle (fun h => hsp (by omega))) (show _ = Value.slice (slp p cap (bs.length - 4) 1) (bs.drop (bs.length - 4)).length (cap - (bs.length - 4)) by rw [hdl]; congr 1; omega)) ?_
    refine rw_p rfl rfl (y_len rfl rfl sl22) ?_
    refine rw_p rfl rfl (y_move rfl) ?_
    refine rw_done ?_
    refine gn_sq ?_
    refine HW_block rfl ?_
    refine HW_loopK (ι := Nat) rfl (ks := [0, 4, 5, 20, 21]) (.cons rfl (.cons rfl (.cons rfl (.cons rfl (.cons rfl .nil))))) (fun x => [(22, .int .i64 x)]) (fun x w => Mem w0 w No [] ∧ x ≤ 4 ∧ ∀ j, j < x → (bs.drop (bs.length - 4))[j]? = (Pl.leS (Pl.crc (bs.take (bs.length - 4))))[j]?) (fun x => 4 - x) 0 (⟨(hm.pick [] rfl), Nat.zero_le _, fun _ h => absurd h (Nat.not_lt_zero _)⟩) ⟨rfl, trivial⟩ (fun x w hM => ?_)
    obtain ⟨hm, hk, hno⟩ := hM
    refine HW_seq rfl ?_
    refine HW_text (.pure 0 .done) (by kernel_rfl) ?_
    refine rw_p rfl rfl (y_lt rfl rfl) ?_
    refine rw_done ?_
    refine gn_sq ?_
    refine HW_seq rfl ?_
    refine HW_cond rfl rfl (fun hc1 => ?_) (fun hc1 => ?_)
    ·
      simp only [decide_eq_true_eq] at hc1
      obtain ⟨c, hi⟩ : ∃ y_, (bs.drop (bs.length - 4))[x]? = some y_ := ⟨_, List.getElem?_eq_getElem (by omega)⟩
      obtain ⟨b2, o2, hp2⟩ := (hx.dropB hle).atI encB_len (by decide) hi
      refine HW_skip rfl ?_
      refine gn_sq ?_
      refine HW_seq rfl ?_
      refine HW_block rfl ?_
      refine HW_seq rfl ?_
      refine HW_text (.pure 0 (.pure 1 (.pure 2 (.pure 3 (.pure 4 .done))))) (by kernel_rfl) ?_
      refine rw_p rfl rfl (y_move rfl) ?_
      refine rw_p rfl rfl (y_index rfl rfl sl22 hp2 (by omega) (by omega)) ?_
      refine rw_p rfl rfl (y_el1 rfl sc5 (hp2 ▸ (hx.ext0 hm.to).dropB hle).nt encB_len hi rfl) ?_
      refine rw_p rfl rfl (y_assign rfl) ?_
      refine rw_p rfl rfl (y_assign rfl) ?_
      refine rw_done ?_
      refine gn_sq ?_
      refine HW_seq rfl ?_
      refine HW_text (.pure 0 (.pure 1 (.pure 2 (.pure 3 (.pure 4 (.pure 5 (.pure 6 .done))))))) (by kernel_rfl) ?_
      refine rw_p rfl rfl (y_move rfl) ?_
      refine rw_p rfl rfl (y_move rfl) ?_
      refine rw_p rfl rfl (y_move rfl) ?_
      refine rw_p rfl rfl (y_mul rfl rfl (i64w (by omega) (by omega))) ?_
      refine rw_p rfl rfl (y_shr rfl rfl (by omega) (w_shr (UInt32.ofNat (8 * x)) (by rw [UInt32.toNat_ofNat']; omega) (by rw [UInt32.toNat_ofNat']; omega))) ?_
      refine rw_p rfl rfl (y_conv rfl is167 it5 w_u8) ?_
      refine rw_p rfl rfl (y_ne rfl rfl) ?_
      refine rw_done ?_
      refine gn_sq ?_
      refine HW_cond rfl rfl (fun hc2 => ?_) (fun hc2 => ?_)
      ·
        simp only [decide_eq_true_eq] at hc2
        have hop : (decide (4 ≤ bs.length) && decide ((bs.drop (bs.length - 4)) = Pl.leS (Pl.crc (bs.take (bs.length - 4))))) = false := by simp only [Bool.and_eq_false_iff, decide_eq_false_iff_not]; exact .inr fun e => hc2 (by have h9 := congrArg (fun l => l[x]?) e; simp only [hi, leS_get (show x < 4 by omega)] at h9; rw [Option.some.inj h9])
        refine HW_seq rfl ?_
        refine HW_text (.pure 0 (.pure 1 .done)) (by kernel_rfl) ?_
        refine rw_p rfl rfl (y_assign rfl) ?_
        refine rw_p rfl rfl (y_assign rfl) ?_
        refine rw_done ?_
        refine gn_sq ?_
        refine HW_ret rfl ?_
        refine gr_bl (gr_sq (gr_lp (gr_bl (gr_sq ?_))))
        refine toR (fin hret rfl (.tmp rfl (.tmp rfl .nil)) .more ?_)
        exact ⟨none, 0, 0, .gap, by rw [hop]; rfl, by rw [hop]; exact .nil _ _ _ _, (hm.drop (List.nil_sublist _)).gapIn⟩
      ·
        simp only [decide_eq_false_iff_not, Decidable.not_not] at hc2
        have hcc : c = (Pl.crc (bs.take (bs.length - 4)) >>> UInt32.ofNat (8 * x)).toUInt8 := UInt8.toNat_inj.1 (by omega)
        refine HW_skip rfl ?_
        refine gn_bl ?_
        refine gn_sq ?_
        refine HW_text (.pure 0 (.pure 1 .done)) (by kernel_rfl) ?_
        refine rw_p rfl rfl (y_add rfl rfl (i64w (by omega) (by omega))) ?_
        refine rw_p rfl rfl (y_move rfl) ?_
        refine rw_done ?_
        refine next (x + 1) (by omega) ⟨hm, by omega, fun j hj => ?_⟩ ⟨nx x, rfl, rfl, rfl, rfl, rfl, trivial⟩
        rcases Nat.lt_or_ge j x with h | h
        · exact hno j h
        · obtain rfl : j = x := by omega
          rw [hi, leS_get (by omega)]; exact congrArg some hcc
    ·
      simp only [decide_eq_false_iff_not] at hc1
      obtain rfl : x = 4 := by omega
      have hop : (decide (4 ≤ bs.length) && decide ((bs.drop (bs.length - 4)) = Pl.leS (Pl.crc (bs.take (bs.length - 4))))) = true := by rw [decide_eq_true (by omega), decide_eq_true (Pl.eq_of (by rw [hdl]; rfl) (by rw [hdl]; exact hno))]; rfl
      refine HW_exit rfl ?_
      refine gx_sq (gx_lp ?_)
      refine gx_here ?_
      refine gn_sq ?_
      refine HW_seq rfl ?_
      refine HW_text (.pure 0 (.pure 1 (.pure 2 (.act 3 (.pure 4 (.pure 5 .done)))))) (by kernel_rfl) ?_
      refine rw_p rfl rfl (y_move rfl) ?_
      refine rw_p rfl rfl (y_move rfl) ?_
      refine rw_p rfl rfl (y_v (y_slice (ln := 0) (hn := (bs.length - 4)) rfl sl22 rfl ⟨_, congrArg (fun x => some (Value.int .i64 x)) (by omega)⟩ (by omega) (by omega) (fun h => hsp (by omega))) (show _ = Value.slice (slp p cap 0 1) (bs.take (bs.length - 4)).length cap by rw [htl, Nat.sub_zero, Nat.sub_zero])) ?_
      replace hm := hm.gapIn
      refine a_append rfl rfl rfl rfl rfl rfl sl22 sl22 z5 rfl (oneB _) ((hx.ext0 hm.to).takeS hle) (lenB _) (Acc.nil 5 1 none 0) hm 0 rfl (by omega) (by omega) fun p_s cap_s g_s b_s w ha_s hm => ?_
      refine rw_p rfl rfl (y_assign rfl) ?_
      refine rw_p rfl rfl (y_assign rfl) ?_
      refine rw_done ?_
      refine gn_sq ?_
      refine HW_ret rfl ?_
      refine toR (fin hret rfl (.tmp rfl (.tmp rfl .nil)) .more ?_)
      exact ⟨p_s, cap_s, g_s, b_s, by rw [hop, if_pos rfl, Nat.zero_add], by rw [hop, if_pos rfl]; simpa only [Nat.zero_add, List.nil_append] using ha_s, (hm.pick [0] rfl)⟩

set_option maxHeartbeats 800000 in
theorem r3_extend (sum : UInt32) (p : Option Addr) (cap : Nat) (bs : List UInt8) (w0 : World) (hx : Rd w0 p (bs.flatMap encB)) (hl : bs.length ≤ 4611686018427387903) : C Tryz.prog 107 [.int .u32 ((sum).toNat : Int), .slice p bs.length cap] w0 fun v w' => v = .int .u32 ((~~~ (Pl.crcReg (~~~ sum) bs)).toNat : Int) ∧ Ext No w0 w' := by
  refine C_of Tryz.func107 rfl rfl rfl fun κ hret hnorm => ?_
  have hm := Mem.start w0
  refine HW_seq rfl ?_
  refine HW_text (.pure 0 .done) (by kernel_rfl) ?_
  refine rw_p rfl rfl (y_assign (cW 0 rfl)) ?_
  refine rw_done ?_
  refine gn_sq ?_
  refine HW_seq rfl ?_
  refine HW_text (.pure 0 (.pure 1 (.pure 2 .done))) (by kernel_rfl) ?_
  refine rw_p rfl rfl (y_move rfl) ?_
  refine rw_p rfl rfl (y_com rfl rfl w_com) ?_
  refine rw_p rfl rfl (y_assign rfl) ?_
  refine rw_done ?_
  refine gn_sq ?_
  refine HW_seq rfl ?_
  refine HW_seq rfl ?_
  refine HW_text (.pure 0 .done) (by kernel_rfl) ?_
  refine rw_p rfl rfl (y_assign rfl) ?_
  refine rw_done ?_
  refine gn_sq ?_
  refine HW_block rfl ?_
  refine HW_loopK (ι := Nat) rfl (ks := [1, 4]) (.cons rfl (.cons rfl .nil)) (fun x => [(6, .int .i64 x), (5, .int .u32 ((Pl.crcReg (~~~ sum) (bs.take x)).toNat : Int))]) (fun x w => Mem w0 w No [] ∧ x ≤ bs.length) (fun x => bs.length - x) 0 (⟨hm, Nat.zero_le _⟩) ⟨rfl, rfl, trivial⟩ (fun x w hM => ?_)
  obtain ⟨hm, hk⟩ := hM
  refine HW_seq rfl ?_
  refine HW_seq rfl ?_
  refine HW_text (.pure 0 (.pure 1 (.pure 2 (.pure 3 .done)))) (by kernel_rfl) ?_
  refine rw_p rfl rfl (y_move rfl) ?_
  refine rw_p rfl rfl (y_move rfl) ?_
  refine rw_p rfl rfl (y_len rfl rfl sl22) ?_
  refine rw_p rfl rfl (y_lt rfl rfl) ?_
  refine rw_done ?_
  refine gn_sq ?_
  refine HW_cond rfl rfl (fun hc0 => ?_) (fun hc0 => ?_)
  ·
    simp only [decide_eq_true_eq] at hc0
    obtain ⟨c, hi⟩ : ∃ y_, bs[x]? = some y_ := ⟨_, List.getElem?_eq_getElem (by omega)⟩
    obtain ⟨qb, qo, rfl⟩ := hx.atI encB_len (by decide) hi
    refine HW_skip rfl ?_
    refine gn_sq ?_
    refine HW_seq rfl ?_
    refine HW_block rfl ?_
    refine HW_seq rfl ?_
    refine HW_text (.pure 0 (.pure 1 (.pure 2 (.pure 3 (.pure 4 (.pure 5 (.pure 6 (.pure 7 .done)))))))) (by kernel_rfl) ?_
    refine rw_p rfl rfl (y_move rfl) ?_
    refine rw_p rfl rfl (y_move rfl) ?_
    refine rw_p rfl rfl (y_move rfl) ?_
    refine rw_p rfl rfl (y_index rfl rfl sl22 rfl (by omega) (by omega)) ?_
    refine rw_p rfl rfl (y_el1 rfl sc5 (hx.ext0 hm.to).nt encB_len hi rfl) ?_
    refine rw_p rfl rfl (y_conv rfl is5 it167 w_of8) ?_
    refine rw_p rfl rfl (y_xor_ rfl rfl w_xor) ?_
    refine rw_p rfl rfl (y_assign rfl) ?_
    refine rw_done ?_
    refine gn_sq ?_
    refine HW_seq rfl ?_
    refine HW_text (.pure 0 .done) (by kernel_rfl) ?_
    refine rw_p rfl rfl (y_assign rfl) ?_
    refine rw_done ?_
    refine gn_sq ?_
    refine HW_block rfl ?_
    refine HW_loopK (ι := Nat) rfl (ks := [1, 4, 6]) (.cons rfl (.cons rfl (.cons rfl .nil))) (fun y => [(7, .int .i64 y), (5, .int .u32 ((crcN y (Pl.crcReg (~~~ sum) (bs.take x) ^^^ c.toUInt32)).toNat : Int))]) (fun y w => Mem w0 w No [] ∧ y ≤ 8) (fun y => 8 - y) 0 (⟨hm, Nat.zero_le _⟩) ⟨rfl, rfl, trivial⟩ (fun y w hM => ?_)
    obtain ⟨hm, hy⟩ := hM
    refine HW_seq rfl ?_
    refine HW_seq rfl ?_
    refine HW_text (.pure 0 (.pure 1 .done)) (by kernel_rfl) ?_
    refine rw_p rfl rfl (y_move rfl) ?_
    refine rw_p rfl rfl (y_lt rfl rfl) ?_
    refine rw_done ?_
    refine gn_sq ?_
    refine HW_cond rfl rfl (fun hc1 => ?_) (fun hc1 => ?_)
    ·
      simp only [decide_eq_true_eq] at hc1
      refine HW_skip rfl ?_
      refine gn_sq ?_
      refine HW_seq rfl ?_
      refine HW_block rfl ?_
      refine HW_seq rfl ?_
      refine HW_text (.pure 0 (.pure 1 (.pure 2 .done))) (by kernel_rfl) ?_
      refine rw_p rfl rfl (y_move rfl) ?_
      refine rw_p rfl rfl (y_and_ rfl (cW 1 rfl) w_and) ?_
      refine rw_p rfl rfl (y_assign rfl) ?_
      refine rw_done ?_
      refine gn_sq ?_
      refine HW_seq rfl ?_
      refine HW_text (.pure 0 (.pure 1 (.pure 2 .done))) (by kernel_rfl) ?_
      refine rw_p rfl rfl (y_move rfl) ?_
      refine rw_p rfl rfl (y_shr rfl rfl (by decide) (w_shr 1 rfl (by decide))) ?_
      refine rw_p rfl rfl (y_assign rfl) ?_
      refine rw_done ?_
      refine gn_sq ?_
      refine HW_seq rfl ?_
      refine HW_text (.pure 0 (.pure 1 .done)) (by kernel_rfl) ?_
      refine rw_p rfl rfl (y_move rfl) ?_
      refine rw_p rfl rfl (y_eq rfl (cW 1 rfl)) ?_
      refine rw_done ?_
      refine gn_sq ?_
      refine HW_cond rfl rfl (fun hc2 => ?_) (fun hc2 => ?_)
      ·
        simp only [decide_eq_true_eq] at hc2
        replace hc2 := UInt32.toNat_inj.1 (Int.ofNat_inj.1 hc2)
        refine HW_text (.pure 0 (.pure 1 (.pure 2 .done))) (by kernel_rfl) ?_
        refine rw_p rfl rfl (y_move rfl) ?_
        refine rw_p rfl rfl (y_xor_ rfl (cW 3988292384 rfl) w_xor) ?_
        refine rw_p rfl rfl (y_assign rfl) ?_
        refine rw_done ?_
        refine gn_bl ?_
        refine gn_sq ?_
        refine HW_text (.pure 0 (.pure 1 (.pure 2 .done))) (by kernel_rfl) ?_
        refine rw_p rfl rfl (y_move rfl) ?_
        refine rw_p rfl rfl (y_add rfl rfl (i64w (by omega) (by omega))) ?_
        refine rw_p rfl rfl (y_assign rfl) ?_
        refine rw_done ?_
        refine next (y + 1) (by omega) ⟨hm, by omega⟩ ⟨nx y, by rw [show crcN (y + 1) (Pl.crcReg (~~~ sum) (bs.take x) ^^^ c.toUInt32) = Pl.crcBit (crcN y (Pl.crcReg (~~~ sum) (bs.take x) ^^^ c.toUInt32)) from rfl, ← bit_ref]; first | (rw [if_pos hc2]; rfl) | (rw [if_neg hc2]; rfl), rfl, rfl, rfl, trivial⟩
      ·
        simp only [decide_eq_false_iff_not] at hc2
        replace hc2 : ¬ (crcN y (Pl.crcReg (~~~ sum) (bs.take x) ^^^ c.toUInt32) &&& 1) = 1 := fun e => hc2 (by rw [e])
        refine HW_skip rfl ?_
        refine gn_bl ?_
        refine gn_sq ?_
        refine HW_text (.pure 0 (.pure 1 (.pure 2 .done))) (by kernel_rfl) ?_
        refine rw_p rfl rfl (y_move rfl) ?_
        refine rw_p rfl rfl (y_add rfl rfl (i64w (by omega) (by omega))) ?_
        refine rw_p rfl rfl (y_assign rfl) ?_
        refine rw_done ?_
        refine next (y + 1) (by omega) ⟨hm, by omega⟩ ⟨nx y, by rw [show crcN (y + 1) (Pl.crcReg (~~~ sum) (bs.take x) ^^^ c.toUInt32) = Pl.crcBit (crcN y (Pl.crcReg (~~~ sum) (bs.take x) ^^^ c.toUInt32)) from rfl, ← bit_ref]; first | (rw [if_pos hc2]; rfl) | (rw [if_neg hc2]; rfl), rfl, rfl, rfl, trivial⟩
    ·
      simp only [decide_eq_false_iff_not] at hc1
      obtain rfl : y = 8 := by omega
      refine HW_exit rfl ?_
      refine gx_sq (gx_lp ?_)
      refine gx_here ?_
      refine gn_bl ?_
      refine gn_sq ?_
      refine HW_text (.pure 0 (.pure 1 (.pure 2 .done))) (by kernel_rfl) ?_
      refine rw_p rfl rfl (y_move rfl) ?_
      refine rw_p rfl rfl (y_add rfl rfl (i64w (by omega) (by omega))) ?_
      refine rw_p rfl rfl (y_assign rfl) ?_
      refine rw_done ?_
      refine next (x + 1) (by omega) ⟨hm, by omega⟩ ⟨nx x, by rw [crcReg_next hi]; rfl, rfl, rfl, trivial⟩
  ·
    simp only [decide_eq_false_iff_not] at hc0
    obtain rfl : x = bs.length := by omega
    refine HW_exit rfl ?_
    refine gx_sq (gx_lp ?_)
    refine gx_here ?_
    refine gn_sq ?_
    refine HW_seq rfl ?_
    refine HW_text (.pure 0 (.pure 1 (.pure 2 .done))) (by kernel_rfl) ?_
    refine rw_p rfl rfl (y_move rfl) ?_
    refine rw_p rfl rfl (y_com rfl rfl w_com) ?_
    refine rw_p rfl rfl (y_assign rfl) ?_
    refine rw_done ?_
    refine gn_sq ?_
    refine HW_ret rfl ?_
    refine toR (fin hret rfl (.tmp rfl .nil) .one ?_)
    exact ⟨by rw [List.take_length], hm.to⟩

theorem r3_of (p : Option Addr) (cap : Nat) (bs : List UInt8) (w0 : World) (hx : Rd w0 p (bs.flatMap encB)) (hl : bs.length ≤ 4611686018427387903) : C Tryz.prog 104 [.slice p bs.length cap] w0 fun v w' => v = .int .u32 ((Pl.crc bs).toNat : Int) ∧ Ext No w0 w' := by
  refine C_of Tryz.func104 rfl rfl rfl fun κ hret hnorm => ?_
  have hm := Mem.start w0
  refine HW_seq rfl ?_
  refine HW_text (.pure 0 .done) (by kernel_rfl) ?_
  refine rw_p rfl rfl (y_assign (cW 0 rfl)) ?_
  refine rw_done ?_
  refine gn_sq ?_
  refine HW_seq rfl ?_
  refine HW_text (.pure 0 (.act 1 (.pure 2 .done))) (by kernel_rfl) ?_
  refine rw_p rfl rfl (y_move rfl) ?_
  refine a_call rfl rfl (evs_c (cW 0 rfl) (evs_c rfl evs_n)) go107 (r3_extend 0 p cap bs _ (hx.ext0 hm.to) hl) fun v w hR => ?_
  obtain ⟨rfl, hE⟩ := hR
  refine ⟨trivial, ?_⟩
  replace hm := hm.ext hE
  refine rw_p rfl rfl (y_assign rfl) ?_
  refine rw_done ?_
  refine gn_sq ?_
  refine HW_ret rfl ?_
  refine toR (fin hret rfl (.tmp rfl .nil) .one ?_)
  exact ⟨rfl, hm.to⟩

set_option maxHeartbeats 400000 in
theorem r3_seal (p : Option Addr) (cap : Nat) (bs : List UInt8) (w0 : World) (hx : Rd w0 p (bs.flatMap encB)) (hl : bs.length ≤ 70368744177664) : C Tryz.prog 85 [.slice p bs.length cap] w0 fun v w' => ∃ q c g b, v = .slice q (bs ++ Pl.leS (Pl.crc bs)).length c ∧ Acc 5 1 q (bs ++ Pl.leS (Pl.crc bs)).length c ((bs ++ Pl.leS (Pl.crc bs)).flatMap encB) g b ∧ Mem w0 w' No [(g, b)] := by
  refine C_of Tryz.func85 rfl rfl rfl fun κ hret hnorm => ?_
  have hm := Mem.start w0
  refine HW_seq rfl ?_
  refine HW_text (.pure 0 .done) (by kernel_rfl) ?_
  refine rw_p rfl rfl (y_assign rfl) ?_
  refine rw_done ?_
  refine gn_sq ?_
  refine HW_seq rfl ?_
  refine HW_text (.pure 0 (.act 1 (.pure 2 .done))) (by kernel_rfl) ?_
  refine rw_p rfl rfl (y_move rfl) ?_
  refine a_call rfl rfl rfl go104 (r3_of p cap bs _ (hx.ext0 hm.to) (by omega)) fun v w hR => ?_
  obtain ⟨rfl, hE⟩ := hR
  refine ⟨trivial, ?_⟩
  replace hm := hm.ext hE
  refine rw_p rfl rfl (y_assign rfl) ?_
  refine rw_done ?_
  refine gn_sq ?_
  refine HW_seq rfl ?_
  refine HW_text (.act 0 (.pure 1 (.act 2 (.pure 3 (.pure 4 (.pure 5 (.pure 6 (.pure 7 (.pure 8 (.pure 9 (.pure 10 (.pure 11 (.pure 12 (.pure 13 (.act 14 (.act 15 (.pure 16 .done))))))))))))))))) (by kernel_rfl) ?_
  refine a_buildSlice (l := []) rfl rfl sl22 z5 rfl rfl rfl rfl rfl rfl rfl hm trivial fun m1 w hg_m1 hm hh => ?_
  refine rw_p rfl rfl (y_move rfl) ?_
  refine a_append rfl rfl rfl rfl rfl rfl sl22 sl22 z5 rfl (oneB bs) (hx.ext0 hm.to) (lenB bs) (Acc.row rfl) hm 0 rfl (by omega) (by omega) fun p_s cap_s g_s b_s w ha_s hm => ?_
  refine rw_p rfl rfl (y_move rfl) ?_
  refine rw_p rfl rfl (y_conv rfl is167 it5 w_u8) ?_
  refine rw_p rfl rfl (y_move rfl) ?_
  refine rw_p rfl rfl (y_shr rfl rfl (by decide) (w_shr 8 rfl (by decide))) ?_
  refine rw_p rfl rfl (y_conv rfl is167 it5 w_u8) ?_
  refine rw_p rfl rfl (y_move rfl) ?_
  refine rw_p rfl rfl (y_shr rfl rfl (by decide) (w_shr 16 rfl (by decide))) ?_
  refine rw_p rfl rfl (y_conv rfl is167 it5 w_u8) ?_
  refine rw_p rfl rfl (y_move rfl) ?_
  refine rw_p rfl rfl (y_shr rfl rfl (by decide) (w_shr 24 rfl (by decide))) ?_
  refine rw_p rfl rfl (y_conv rfl is167 it5 w_u8) ?_
  refine a_buildSlice (l := [_, _, _, _]) rfl rfl sl22 z5 rfl rfl rfl rfl rfl rfl rfl hm trivial fun m2 w hg_m2 hm hh => ?_
  refine a_append rfl rfl rfl rfl rfl rfl sl22 sl22 z5 rfl rfl (Rd.row0 (hm.get (k := 0) rfl)) rfl ha_s hm 1 rfl (by omega) (by omega) fun p_s cap_s g_s b_s w ha_s hm => ?_
  refine rw_p rfl rfl (y_assign rfl) ?_
  refine rw_done ?_
  refine gn_sq ?_
  refine HW_ret rfl ?_
  refine toR (fin hret rfl (.tmp rfl .nil) .one ?_)
  exact ⟨p_s, cap_s, g_s, b_s, by rw [List.length_append, Nat.zero_add]; rfl, by rw [List.length_append]; exact (Nat.zero_add bs.length ▸ ha_s).to (by simp only [List.flatMap_append, List.nil_append]; rfl), (hm.pick [1] rfl)⟩

set_option maxHeartbeats 400000 in
theorem r3_open (p : Option Addr) (cap : Nat) (bs : List UInt8) (w0 : World) (hx : Rd w0 p (bs.flatMap encB)) (hle : bs.length ≤ cap) (hsp : cap ≠ 0 → ∀ ad, p = some ad → ad.spot = none) (hl : bs.length ≤ 70368744177664) : C Tryz.prog 70 [.slice p bs.length cap] w0 fun v w' => v = .int .i64 (if (decide (4 ≤ bs.length) && decide ((bs.drop (bs.length - 4)) = Pl.leS (Pl.crc (bs.take (bs.length - 4))))) = true then (bs.length : Int) - 4 else -1) ∧ Ext No w0 w' := by
  refine C_of Tryz.func70 rfl rfl rfl fun κ hret hnorm => ?_
  have hm := Mem.start w0
  refine HW_seq rfl ?_
  refine HW_text (.pure 0 .done) (by kernel_rfl) ?_
  refine rw_p rfl rfl (y_assign rfl) ?_
  refine rw_done ?_
  refine gn_sq ?_
  refine HW_seq rfl ?_
  refine HW_text (.pure 0 (.pure 1 (.pure 2 (.pure 3 .done)))) (by kernel_rfl) ?_
  refine rw_p rfl rfl (y_move rfl) ?_
  refine rw_p rfl rfl (y_len rfl rfl sl22) ?_
  refine rw_p rfl rfl (y_sub rfl rfl (i64w (by omega) (by omega))) ?_
  refine rw_p rfl rfl (y_assign rfl) ?_
  refine rw_done ?_
  refine gn_sq ?_
  refine HW_seq rfl ?_
  refine HW_seq rfl ?_
  by_cases h4 : (bs.length : Int) - 4 < 0
  ·
    have hop : (decide (4 ≤ bs.length) && decide ((bs.drop (bs.length - 4)) = Pl.leS (Pl.crc (bs.take (bs.length - 4))))) = false := by rw [decide_eq_false (by omega)]; rfl
    refine HW_draw (.pure 0 (.pure 1 (.pure 2 (.pure 3 (.pure 4 (.pure 5 (.pure 8 (.pure 9 (.act 6 (.pure 7 (.pure 10 (.pure 11 .done)))))))))))) No mix (by kernel_rfl) hm fun w hw hm0 hh => ?_
    have hm := hm0
    refine rw_p rfl rfl (y_move rfl) ?_
    refine rw_p rfl rfl (y_as (c := true) (y_lt rfl rfl) (decide_eq_true h4)) ?_
    refine rw_p rfl rfl (y_move rfl) ?_
    refine rw_gf rfl rfl (by decide) rfl ?_
    refine rw_gf rfl rfl (by decide) rfl ?_
    refine rw_gf rfl rfl (by decide) rfl ?_
    refine rw_gf rfl rfl (by decide) rfl ?_
    refine rw_gf rfl rfl (by decide) rfl ?_
    refine a_gf rfl rfl (by decide) rfl hh ?_
    refine rw_gf rfl rfl (by decide) rfl ?_
    refine rw_gf rfl rfl (by decide) rfl ?_
    refine rw_p rfl rfl (y_pickT rfl rfl) ?_
    refine rw_done ?_
    refine gn_sq ?_
    refine HW_condT rfl rfl rfl ?_
    refine HW_seq rfl ?_
    refine HW_text (.pure 0 .done) (by kernel_rfl) ?_
    refine rw_p rfl rfl (y_assign rfl) ?_
    refine rw_done ?_
    refine gn_sq ?_
    refine HW_ret rfl ?_
    refine gr_sq ?_
    refine toR (fin hret rfl (.tmp rfl .nil) .one ?_)
    exact ⟨by rw [hop]; rfl, hm.to⟩
  ·
    have htl : (bs.take (bs.length - 4)).length = bs.length - 4 := by rw [List.length_take]; omega
    have hdl : (bs.drop (bs.length - 4)).length = 4 := by rw [List.length_drop]; omega
    have hcat : bs = (bs.take (bs.length - 4)) ++ (bs.drop (bs.length - 4)) := (List.take_append_drop _ _).symm
    refine HW_draw (.pure 0 (.pure 1 (.pure 2 (.pure 3 (.pure 4 (.pure 5 (.pure 8 (.pure 9 (.act 6 (.act 7 (.pure 10 (.pure 11 .done)))))))))))) No mix (by kernel_rfl) hm fun w hw hm0 hh => ?_
    have hm := hm0
    refine rw_p rfl rfl (y_move rfl) ?_
    refine rw_p rfl rfl (y_as (c := false) (y_lt rfl rfl) (decide_eq_false h4)) ?_
    refine rw_p rfl rfl (y_move rfl) ?_
    refine rw_p rfl rfl (y_move rfl) ?_
    refine rw_p rfl rfl (y_move rfl) ?_
    refine rw_p rfl rfl (y_v (y_slice (ln := 0) (hn := (bs.length - 4)) rfl sl22 rfl ⟨_, congrArg (fun x => some (Value.int .i64 x)) (by omega)⟩ (by omega) (by omega) (fun h => hsp (by omega))) (show _ = Value.slice (slp p cap 0 1) (bs.take (bs.length - 4)).length cap by rw [htl, Nat.sub_zero, Nat.sub_zero])) ?_
    refine rw_p rfl rfl (y_move rfl) ?_
    refine rw_p rfl rfl (y_cvs rfl bt22_9 ((hx.ext0 hm0.to).nd) rfl) ?_
    refine a_call rfl rfl rfl go85 (r3_seal (slp p cap 0 1) cap (bs.take (bs.length - 4)) _ ((hx.ext0 hm.to).takeS hle) (by omega)) fun v w hR => ?_
    obtain ⟨p_z, cap_z, g_z, b_z, rfl, ha_z, hmc⟩ := hR
    refine ⟨hh.ext hmc.to, ?_⟩
    have hg_z : b_z.real = true → _ := fun hr => (hmc.fresh _ List.mem_cons_self hr).resolve_left id
    replace hh := hh.ext hmc.to
    replace hm := hm.callN hmc
    refine a_pure rfl rfl rfl (y_cvs rfl bt22_9 ((ha_z.rd hm 0 rfl).nt) ha_z.lenB) hh ?_
    refine rw_p rfl rfl (y_snqB rfl rfl) ?_
    refine rw_p rfl rfl (y_pickF rfl rfl) ?_
    refine rw_done ?_
    refine gn_sq ?_
    refine HW_cond rfl rfl (fun hc0 => ?_) (fun hc0 => ?_)
    ·
      simp only [decide_eq_true_eq] at hc0
      have hop : (decide (4 ≤ bs.length) && decide ((bs.drop (bs.length - 4)) = Pl.leS (Pl.crc (bs.take (bs.length - 4))))) = false := by simp only [Bool.and_eq_false_iff, decide_eq_false_iff_not]; exact .inr fun e => hc0 (by rw [← e]; exact hcat.symm)
      refine HW_seq rfl ?_
      refine HW_text (.pure 0 .done) (by kernel_rfl) ?_
      refine rw_p rfl rfl (y_assign rfl) ?_
      refine rw_done ?_
      refine gn_sq ?_
      refine HW_ret rfl ?_
      refine gr_sq ?_
      refine toR (fin hret rfl (.tmp rfl .nil) .one ?_)
      exact ⟨by rw [hop]; rfl, hm.to⟩
    ·
      simp only [decide_eq_false_iff_not, Decidable.not_not] at hc0
      have hop : (decide (4 ≤ bs.length) && decide ((bs.drop (bs.length - 4)) = Pl.leS (Pl.crc (bs.take (bs.length - 4))))) = true := by rw [decide_eq_true (by omega), decide_eq_true (List.append_cancel_left (hc0.trans hcat)).symm]; rfl
      refine HW_skip rfl ?_
      refine gn_sq ?_
      refine HW_seq rfl ?_
      refine HW_text (.pure 0 (.pure 1 .done)) (by kernel_rfl) ?_
      refine rw_p rfl rfl (y_move rfl) ?_
      refine rw_p rfl rfl (y_assign rfl) ?_
      refine rw_done ?_
      refine gn_sq ?_
      refine HW_ret rfl ?_
      refine toR (fin hret rfl (.tmp rfl .nil) .one ?_)
      exact ⟨by rw [hop, if_pos rfl], hm.to⟩

end Go.Proofs.YthailbggeafckaaGreat
