/- Contracts of functions of the program: what each returns. Conditions: the hypotheses of each theorem. -/
import Derived.Test.YtlgkhajmjgepaaaWire
import Derived.Test.YtlgkhajmjgepaaaCxX
import Derived.Test.YtlgkhajmjgepaaaCxT
set_option linter.unusedVariables false
set_option linter.unusedSimpArgs false
namespace Go.Proofs.Ytlgkhajmjgepaaa
open Go Go.Cx

theorem ag92 : aggS Try.prog 92 = some 16 := by kernel_rfl
theorem ar92 : arrO Try.prog 92 = some (16, 74, 1) := by kernel_rfl
theorem is3 : (Try.prog.underlying 3).isSome = true := by kernel_rfl
theorem it74 : intO Try.prog 74 = some .u32 := by kernel_rfl
theorem sz92 : szO Try.prog 92 = some 16 := by kernel_rfl
theorem z92 : zer Try.prog 92 = some [.int .u32 0, .int .u32 0, .int .u32 0, .int .u32 0, .int .u32 0, .int .u32 0, .int .u32 0, .int .u32 0, .int .u32 0, .int .u32 0, .int .u32 0, .int .u32 0, .int .u32 0, .int .u32 0, .int .u32 0, .int .u32 0] := by kernel_rfl
theorem sz74 : szO Try.prog 74 = some 1 := by kernel_rfl
theorem go49 : isGo Try.prog 49 = true := by kernel_rfl
theorem sc74 : scal Try.prog 74 = true := by kernel_rfl
theorem sl88 : slcO Try.prog 88 = some (23, 1, 24) := by kernel_rfl
theorem go46 : isGo Try.prog 46 = true := by kernel_rfl

set_option maxHeartbeats 800000 in
theorem k_table (w0 : World) : C Try.prog 49 [] w0 fun v w' => v = .agg ⟨tabL 16⟩ ∧ Ext No w0 w' := by
  refine C_of Try.func49 rfl rfl rfl fun κ hret hnorm => ?_
  have hm := Mem.start w0
  refine HW_seq rfl ?_
  refine HW_text (.act 0 .done) (by kernel_rfl) ?_
  refine a_alloc rfl rfl z92 hm trivial fun m1 w hg_m1 hm hh => ?_
  refine rw_done ?_
  refine gn_sq ?_
  refine HW_seq rfl ?_
  refine HW_text (.act 0 .done) (by kernel_rfl) ?_
  refine a_alloc rfl rfl z92 hm trivial fun m2 w hg_m2 hm hh => ?_
  refine rw_done ?_
  refine gn_sq ?_
  refine HW_seq rfl ?_
  refine HW_seq rfl ?_
  refine HW_text (.pure 0 .done) (by kernel_rfl) ?_
  refine rw_p rfl rfl (y_move rfl) ?_
  refine rw_done ?_
  refine gn_sq ?_
  refine HW_block rfl ?_
  refine HW_loopK (ι := Nat) rfl (ks := [0, 1]) (.cons rfl (.cons rfl .nil)) (fun x => [(4, .int .i64 x)]) (fun x w => Mem w0 w No [(m2, .row 92 (tabL x)), (m1, .row 92 [.int .u32 0, .int .u32 0, .int .u32 0, .int .u32 0, .int .u32 0, .int .u32 0, .int .u32 0, .int .u32 0, .int .u32 0, .int .u32 0, .int .u32 0, .int .u32 0, .int .u32 0, .int .u32 0, .int .u32 0, .int .u32 0])] ∧ x ≤ 16) (fun x => 16 - x) 0 (⟨hm, Nat.zero_le _⟩) ⟨rfl, trivial⟩ (fun x w hM => ?_)
  obtain ⟨hm, hk⟩ := hM
  refine HW_seq rfl ?_
  refine HW_text (.pure 0 .done) (by kernel_rfl) ?_
  refine rw_p rfl rfl (y_lt rfl rfl) ?_
  refine rw_done ?_
  refine gn_sq ?_
  refine HW_seq rfl ?_
  refine HW_cond rfl rfl (fun hc0 => ?_) (fun hc0 => ?_)
  ·
    simp only [decide_eq_true_eq] at hc0
    refine HW_skip rfl ?_
    refine gn_sq ?_
    refine HW_seq rfl ?_
    refine HW_block rfl ?_
    refine HW_seq rfl ?_
    refine HW_text (.pure 0 (.pure 1 .done)) (by kernel_rfl) ?_
    refine rw_p rfl rfl (y_move rfl) ?_
    refine rw_p rfl rfl (y_assign rfl) ?_
    refine rw_done ?_
    refine gn_sq ?_
    refine HW_seq rfl ?_
    refine HW_text (.pure 0 (.pure 1 (.pure 2 .done))) (by kernel_rfl) ?_
    refine rw_p rfl rfl (y_move rfl) ?_
    refine rw_p rfl rfl (y_conv rfl is3 it74 (w_ofN (by omega))) ?_
    refine rw_p rfl rfl (y_assign rfl) ?_
    refine rw_done ?_
    refine gn_sq ?_
    refine HW_seq rfl ?_
    refine HW_seq rfl ?_
    refine HW_text (.pure 0 .done) (by kernel_rfl) ?_
    refine rw_p rfl rfl (y_move rfl) ?_
    refine rw_done ?_
    refine gn_sq ?_
    refine HW_block rfl ?_
    refine HW_loopK (ι := Nat) rfl (ks := [0, 1, 2, 4]) (.cons rfl (.cons rfl (.cons rfl (.cons rfl .nil)))) (fun y => [(9, .int .i64 y), (3, .int .u32 ((crcN y (UInt32.ofNat x)).toNat : Int))]) (fun y w => Mem w0 w No [(m2, .row 92 (tabL x)), (m1, .row 92 [.int .u32 0, .int .u32 0, .int .u32 0, .int .u32 0, .int .u32 0, .int .u32 0, .int .u32 0, .int .u32 0, .int .u32 0, .int .u32 0, .int .u32 0, .int .u32 0, .int .u32 0, .int .u32 0, .int .u32 0, .int .u32 0])] ∧ y ≤ 4) (fun y => 4 - y) 0 (⟨hm, Nat.zero_le _⟩) ⟨rfl, rfl, trivial⟩ (fun y w hM => ?_)
    obtain ⟨hm, hy⟩ := hM
    refine HW_seq rfl ?_
    refine HW_text (.pure 0 .done) (by kernel_rfl) ?_
    refine rw_p rfl rfl (y_lt rfl rfl) ?_
    refine rw_done ?_
    refine gn_sq ?_
    refine HW_seq rfl ?_
    refine HW_cond rfl rfl (fun hc1 => ?_) (fun hc1 => ?_)
    ·
      simp only [decide_eq_true_eq] at hc1
      refine HW_skip rfl ?_
      refine gn_sq ?_
      refine HW_seq rfl ?_
      refine HW_block rfl ?_
      refine HW_text (.pure 0 (.pure 1 (.pure 2 (.pure 3 (.pure 4 (.pure 5 (.pure 6 (.pure 7 .done)))))))) (by kernel_rfl) ?_
      refine rw_p rfl rfl (y_move rfl) ?_
      refine rw_p rfl rfl (y_shr rfl rfl (by decide) (w_shr 1 rfl (by decide))) ?_
      refine rw_p rfl rfl (y_move rfl) ?_
      refine rw_p rfl rfl (y_and_ rfl (cW 1 rfl) w_and) ?_
      refine rw_p rfl rfl (y_neg rfl w_neg) ?_
      refine rw_p rfl rfl (y_and_ (cW 3988292384 rfl) rfl w_and) ?_
      refine rw_p rfl rfl (y_xor_ rfl rfl w_xor) ?_
      refine rw_p rfl rfl (y_assign rfl) ?_
      refine rw_done ?_
      refine gn_bl ?_
      refine gn_sq ?_
      refine HW_text (.pure 0 (.pure 1 .done)) (by kernel_rfl) ?_
      refine rw_p rfl rfl (y_add rfl rfl (i64w (by omega) (by omega))) ?_
      refine rw_p rfl rfl (y_move rfl) ?_
      refine rw_done ?_
      refine next (y + 1) (by omega) ⟨hm, by omega⟩ ⟨nx y, rfl, rfl, rfl, rfl, rfl, trivial⟩
    ·
      simp only [decide_eq_false_iff_not] at hc1
      obtain rfl : y = 4 := by omega
      refine HW_exit rfl ?_
      refine gx_sq (gx_lp ?_)
      refine gx_here ?_
      refine gn_sq ?_
      refine HW_text (.pure 0 (.pure 1 (.pure 2 (.act 3 .done)))) (by kernel_rfl) ?_
      refine rw_p rfl rfl (y_move rfl) ?_
      refine rw_p rfl rfl (y_move rfl) ?_
      refine rw_p rfl rfl (y_indexP rfl rfl ar92 (by omega) (by omega)) ?_
      refine a_store rfl rfl rfl rfl sz74 rfl hm 0 rfl (by rw [Nat.ble_eq, tab_len]; simp only [List.length_singleton]; omega) fun w hm => ?_
      have hm2 : Mem w0 w No [(m2, .row 92 (upds (tabL x) (0 + ((x : Nat) : Int).toNat * 1) [.int .u32 ((Pl.crc4 (UInt32.ofNat x)).toNat : Int)])), (m1, .row 92 [.int .u32 0, .int .u32 0, .int .u32 0, .int .u32 0, .int .u32 0, .int .u32 0, .int .u32 0, .int .u32 0, .int .u32 0, .int .u32 0, .int .u32 0, .int .u32 0, .int .u32 0, .int .u32 0, .int .u32 0, .int .u32 0])] := hm
      rw [tab_set (by omega)] at hm2
      refine rw_done ?_
      refine gn_bl ?_
      refine gn_sq ?_
      refine HW_text (.pure 0 (.pure 1 .done)) (by kernel_rfl) ?_
      refine rw_p rfl rfl (y_add rfl rfl (i64w (by omega) (by omega))) ?_
      refine rw_p rfl rfl (y_move rfl) ?_
      refine rw_done ?_
      refine next (x + 1) (by omega) ⟨hm2, by omega⟩ ⟨nx x, rfl, rfl, trivial⟩
  ·
    simp only [decide_eq_false_iff_not] at hc0
    obtain rfl : x = 16 := by omega
    refine HW_exit rfl ?_
    refine gx_sq (gx_lp ?_)
    refine gx_here ?_
    refine gn_sq ?_
    refine HW_seq rfl ?_
    refine HW_text (.pure 0 (.act 1 .done)) (by kernel_rfl) ?_
    refine rw_p rfl rfl (y_loadA (s := 16) (vs := [_, _, _, _, _, _, _, _, _, _, _, _, _, _, _, _]) rfl ag92 (hm.nt 0 rfl) rfl) ?_
    refine a_store rfl rfl rfl rfl sz92 rfl hm 1 rfl rfl fun w hm => ?_
    refine rw_done ?_
    refine gn_sq ?_
    refine HW_ret rfl ?_
    refine toR (fin hret rfl (.cell rfl (run_loadVar_a (vs := [_, _, _, _, _, _, _, _, _, _, _, _, _, _, _, _]) ag92 (hm.get (k := 1) rfl) rfl) .nil) .one ?_)
    exact ⟨rfl, hm.to⟩

set_option maxHeartbeats 800000 in
theorem k_extend (sum : UInt32) (q : Option Addr) (cq : Nat) (ps : List SB) (w0 : World) (hq : Rd w0 q (ps.flatMap encS)) (hps : ∀ s ∈ ps, Rd w0 s.p (s.bs.flatMap encB)) (hl : ps.length ≤ 4611686018427387903) (hlb : ∀ s ∈ ps, s.bs.length ≤ 4611686018427387903) : C Try.prog 46 [.int .u32 ((sum).toNat : Int), .slice q ps.length cq] w0 fun v w' => v = .int .u32 ((~~~ (Pl.crcReg (~~~ sum) (ps.flatMap (·.bs)))).toNat : Int) ∧ Ext No w0 w' := by
  refine C_of Try.func46 rfl rfl rfl fun κ hret hnorm => ?_
  have hm := Mem.start w0
  refine HW_seq rfl ?_
  refine HW_text (.pure 0 .done) (by kernel_rfl) ?_
  refine rw_p rfl rfl (y_assign (cW 0 rfl)) ?_
  refine rw_done ?_
  refine gn_sq ?_
  refine HW_seq rfl ?_
  refine HW_text (.act 0 (.act 1 (.act 2 .done))) (by kernel_rfl) ?_
  refine a_call rfl rfl rfl go49 (k_table _) fun v w hR => ?_
  obtain ⟨rfl, hE⟩ := hR
  refine ⟨trivial, ?_⟩
  replace hm := hm.ext hE
  refine a_alloc rfl rfl z92 hm trivial fun m1 w hg_m1 hm hh => ?_
  refine a_store rfl rfl rfl rfl sz92 rfl hm 0 rfl rfl fun w hm => ?_
  replace hm : Mem w0 w No [(m1, .row 92 (tabL 16))] := hm
  refine rw_done ?_
  refine gn_sq ?_
  refine HW_seq rfl ?_
  refine HW_text (.pure 0 (.pure 1 (.pure 2 .done))) (by kernel_rfl) ?_
  refine rw_p rfl rfl (y_move rfl) ?_
  refine rw_p rfl rfl (y_com rfl rfl w_com) ?_
  refine rw_p rfl rfl (y_assign rfl) ?_
  refine rw_done ?_
  refine gn_sq ?_
  refine HW_seq rfl ?_
  refine HW_seq rfl ?_
  refine HW_text (.pure 0 (.pure 1 (.pure 2 .done))) (by kernel_rfl) ?_
  refine rw_p rfl rfl (y_move rfl) ?_
  refine rw_p rfl rfl (y_len rfl rfl sl88) ?_
  refine rw_p rfl rfl (y_move rfl) ?_
  refine rw_done ?_
  refine gn_sq ?_
  refine HW_block rfl ?_
  refine HW_loopK (ι := Nat) rfl (ks := [4, 5, 14, 15]) (.cons rfl (.cons rfl (.cons rfl (.cons rfl .nil)))) (fun x => [(16, .int .i64 x), (6, .int .u32 (((Pl.crcReg (~~~ sum) ((ps.take x).flatMap (·.bs)))).toNat : Int))]) (fun x w => Mem w0 w No [(m1, .row 92 (tabL 16))] ∧ x ≤ ps.length) (fun x => ps.length - x) 0 (⟨hm, Nat.zero_le _⟩) ⟨rfl, rfl, trivial⟩ (fun x w hM => ?_)
  obtain ⟨hm, hk⟩ := hM
  refine HW_seq rfl ?_
  refine HW_text (.pure 0 .done) (by kernel_rfl) ?_
  refine rw_p rfl rfl (y_lt rfl rfl) ?_
  refine rw_done ?_
  refine gn_sq ?_
  refine HW_seq rfl ?_
  refine HW_cond rfl rfl (fun hc0 => ?_) (fun hc0 => ?_)
  ·
    simp only [decide_eq_true_eq] at hc0
    obtain ⟨s, hi⟩ : ∃ y_, ps[x]? = some y_ := ⟨_, List.getElem?_eq_getElem (by omega)⟩
    obtain ⟨qb, qo, rfl⟩ := hq.atI encS_len (by decide) hi
    have hsl := hlb s (List.mem_of_getElem? hi)
    have hnx : (Pl.crcReg (~~~ sum) ((ps.take (x + 1)).flatMap (·.bs))) = Pl.crcReg (Pl.crcReg (~~~ sum) ((ps.take x).flatMap (·.bs))) s.bs := by rw [List.take_add_one, hi]; simp only [Option.toList, List.flatMap_append, List.flatMap_cons, List.flatMap_nil, List.append_nil, Pl.crcReg_app]
    refine HW_skip rfl ?_
    refine gn_sq ?_
    refine HW_seq rfl ?_
    refine HW_block rfl ?_
    refine HW_seq rfl ?_
    refine HW_text (.pure 0 (.pure 1 (.pure 2 .done))) (by kernel_rfl) ?_
    refine rw_p rfl rfl (y_index rfl rfl sl88 rfl (by omega) (by omega)) ?_
    refine rw_p rfl rfl (y_el1 rfl sc23 (hq.ext0 hm.to).nt encS_len hi rfl) ?_
    refine rw_p rfl rfl (y_assign rfl) ?_
    refine rw_done ?_
    refine gn_sq ?_
    refine HW_seq rfl ?_
    refine HW_text (.pure 0 (.pure 1 (.pure 2 .done))) (by kernel_rfl) ?_
    refine rw_p rfl rfl (y_move rfl) ?_
    refine rw_p rfl rfl (y_len rfl rfl sl23) ?_
    refine rw_p rfl rfl (y_move rfl) ?_
    refine rw_done ?_
    refine gn_sq ?_
    refine HW_block rfl ?_
    refine HW_loopK (ι := Nat) rfl (ks := [4, 5, 14, 15, 16, 20, 21]) (.cons rfl (.cons rfl (.cons rfl (.cons rfl (.cons rfl (.cons rfl (.cons rfl .nil))))))) (fun y => [(22, .int .i64 y), (6, .int .u32 ((Pl.crcReg (Pl.crcReg (~~~ sum) ((ps.take x).flatMap (·.bs))) (s.bs.take y)).toNat : Int))]) (fun y w => Mem w0 w No [(m1, .row 92 (tabL 16))] ∧ y ≤ s.bs.length) (fun y => s.bs.length - y) 0 (⟨hm, Nat.zero_le _⟩) ⟨rfl, rfl, trivial⟩ (fun y w hM => ?_)
    obtain ⟨hm, hy⟩ := hM
    refine HW_seq rfl ?_
    refine HW_text (.pure 0 .done) (by kernel_rfl) ?_
    refine rw_p rfl rfl (y_lt rfl rfl) ?_
    refine rw_done ?_
    refine gn_sq ?_
    refine HW_seq rfl ?_
    refine HW_cond rfl rfl (fun hc1 => ?_) (fun hc1 => ?_)
    ·
      simp only [decide_eq_true_eq] at hc1
      obtain ⟨c, hj⟩ : ∃ y_, s.bs[y]? = some y_ := ⟨_, List.getElem?_eq_getElem (by omega)⟩
      obtain ⟨b2, o2, hp2⟩ := (hps s (List.mem_of_getElem? hi)).atI encB_len (by decide) hj
      refine HW_skip rfl ?_
      refine gn_sq ?_
      refine HW_seq rfl ?_
      refine HW_block rfl ?_
      refine HW_seq rfl ?_
      refine HW_text (.pure 0 (.pure 1 (.pure 2 .done))) (by kernel_rfl) ?_
      refine rw_p rfl rfl (y_index rfl rfl sl23 hp2 (by omega) (by omega)) ?_
      refine rw_p rfl rfl (y_el1 rfl sc5 (hp2 ▸ (hps s (List.mem_of_getElem? hi)).ext0 hm.to).nt encB_len hj rfl) ?_
      refine rw_p rfl rfl (y_assign rfl) ?_
      refine rw_done ?_
      refine gn_sq ?_
      refine HW_seq rfl ?_
      refine HW_text (.pure 0 (.pure 1 (.pure 2 (.pure 3 (.pure 4 .done))))) (by kernel_rfl) ?_
      refine rw_p rfl rfl (y_move rfl) ?_
      refine rw_p rfl rfl (y_move rfl) ?_
      refine rw_p rfl rfl (y_conv rfl is5 it74 w_of8) ?_
      refine rw_p rfl rfl (y_xor_ rfl rfl w_xor) ?_
      refine rw_p rfl rfl (y_assign rfl) ?_
      refine rw_done ?_
      refine gn_sq ?_
      refine HW_seq rfl ?_
      refine HW_text (.pure 0 (.pure 1 (.pure 2 (.pure 3 (.pure 4 (.pure 5 (.pure 6 (.pure 7 .done)))))))) (by kernel_rfl) ?_
      refine rw_p rfl rfl (y_move rfl) ?_
      refine rw_p rfl rfl (y_shr rfl rfl (by decide) (w_shr 4 rfl (by decide))) ?_
      refine rw_p rfl rfl (y_move rfl) ?_
      refine rw_p rfl rfl (y_and_ rfl (cW 15 rfl) w_and) ?_
      refine rw_p rfl rfl (y_indexP rfl rfl ar92 (Int.natCast_nonneg _) (by rw [Pl.and15]; omega)) ?_
      refine rw_p rfl rfl (y_load rfl sc74 (hm.nt 0 rfl) (tab_get _ (by rw [Pl.and15]; omega))) ?_
      refine rw_p rfl rfl (y_xor_ rfl rfl w_xor) ?_
      refine rw_p rfl rfl (y_assign rfl) ?_
      refine rw_done ?_
      refine gn_sq ?_
      refine HW_text (.pure 0 (.pure 1 (.pure 2 (.pure 3 (.pure 4 (.pure 5 (.pure 6 (.pure 7 .done)))))))) (by kernel_rfl) ?_
      refine rw_p rfl rfl (y_move rfl) ?_
      refine rw_p rfl rfl (y_shr rfl rfl (by decide) (w_shr 4 rfl (by decide))) ?_
      refine rw_p rfl rfl (y_move rfl) ?_
      refine rw_p rfl rfl (y_and_ rfl (cW 15 rfl) w_and) ?_
      refine rw_p rfl rfl (y_indexP rfl rfl ar92 (Int.natCast_nonneg _) (by rw [Pl.and15]; omega)) ?_
      refine rw_p rfl rfl (y_load rfl sc74 (hm.nt 0 rfl) (tab_get _ (by rw [Pl.and15]; omega))) ?_
      refine rw_p rfl rfl (y_xor_ rfl rfl w_xor) ?_
      refine rw_p rfl rfl (y_assign rfl) ?_
      refine rw_done ?_
      refine gn_bl ?_
      refine gn_sq ?_
      refine HW_text (.pure 0 (.pure 1 .done)) (by kernel_rfl) ?_
      refine rw_p rfl rfl (y_add rfl rfl (i64w (by omega) (by omega))) ?_
      refine rw_p rfl rfl (y_move rfl) ?_
      refine rw_done ?_
      refine next (y + 1) (by omega) ⟨hm, by omega⟩ ⟨nx y, by rw [crcReg_next hj, ← crc_byte]; rfl, rfl, rfl, rfl, rfl, rfl, rfl, rfl, trivial⟩
    ·
      simp only [decide_eq_false_iff_not] at hc1
      have hye : s.bs.take y = s.bs := List.take_of_length_le (by omega)
      rw [← hye] at hnx
      refine HW_exit rfl ?_
      refine gx_sq (gx_lp ?_)
      refine gx_here ?_
      refine gn_bl ?_
      refine gn_sq ?_
      refine HW_text (.pure 0 (.pure 1 .done)) (by kernel_rfl) ?_
      refine rw_p rfl rfl (y_add rfl rfl (i64w (by omega) (by omega))) ?_
      refine rw_p rfl rfl (y_move rfl) ?_
      refine rw_done ?_
      refine next (x + 1) (by omega) ⟨hm, by omega⟩ ⟨nx x, by rw [hnx, hye]; rfl, rfl, rfl, rfl, rfl, trivial⟩
  ·
    simp only [decide_eq_false_iff_not] at hc0
    obtain rfl : x = ps.length := by omega
    refine HW_exit rfl ?_
    refine gx_sq (gx_lp ?_)
    refine gx_here ?_
    refine gn_sq ?_
    refine HW_seq rfl ?_
    refine HW_text (.pure 0 (.pure 1 (.pure 2 .done))) (by kernel_rfl) ?_
    refine rw_p rfl rfl (y_move rfl) ?_
    refine rw_p rfl rfl (y_com rfl rfl w_com) ?_
    refine rw_p rfl rfl (y_assign rfl) ?_
    refine rw_done ?_
    refine gn_sq ?_
    refine HW_ret rfl ?_
    refine toR (fin hret rfl (.tmp rfl .nil) .one ?_)
    exact ⟨by rw [List.take_length], hm.to⟩

theorem k_of (q : Option Addr) (cq : Nat) (ps : List SB) (w0 : World) (hq : Rd w0 q (ps.flatMap encS)) (hps : ∀ s ∈ ps, Rd w0 s.p (s.bs.flatMap encB)) (hl : ps.length ≤ 4611686018427387903) (hlb : ∀ s ∈ ps, s.bs.length ≤ 4611686018427387903) : C Try.prog 39 [.slice q ps.length cq] w0 fun v w' => v = .int .u32 ((Pl.crc (ps.flatMap (·.bs))).toNat : Int) ∧ Ext No w0 w' := by
  refine C_of Try.func39 rfl rfl rfl fun κ hret hnorm => ?_
  have hm := Mem.start w0
  refine HW_seq rfl ?_
  refine HW_text (.pure 0 .done) (by kernel_rfl) ?_
  refine rw_p rfl rfl (y_assign (cW 0 rfl)) ?_
  refine rw_done ?_
  refine gn_sq ?_
  refine HW_seq rfl ?_
  refine HW_text (.pure 0 (.act 1 (.pure 2 .done))) (by kernel_rfl) ?_
  refine rw_p rfl rfl (y_move rfl) ?_
  refine a_call rfl rfl (evs_c (cW 0 rfl) (evs_c rfl evs_n)) go46 (k_extend 0 q cq ps _ (hq.ext0 hm.to) (fun s hs => (hps s hs).ext0 hm.to) hl hlb) fun v w hR => ?_
  obtain ⟨rfl, hE⟩ := hR
  refine ⟨trivial, ?_⟩
  replace hm := hm.ext hE
  refine rw_p rfl rfl (y_assign rfl) ?_
  refine rw_done ?_
  refine gn_sq ?_
  refine HW_ret rfl ?_
  refine toR (fin hret rfl (.tmp rfl .nil) .one ?_)
  exact ⟨rfl, hm.to⟩

end Go.Proofs.Ytlgkhajmjgepaaa
