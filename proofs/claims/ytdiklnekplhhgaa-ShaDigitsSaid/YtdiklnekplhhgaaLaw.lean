/- Contracts of functions of the program: what each returns. Conditions: the hypotheses of each theorem. -/
import Derived.Test.YtdiklnekplhhgaaSrE
set_option linter.unusedVariables false
set_option linter.unusedSimpArgs false
namespace Go.Proofs.Ytdiklnekplhhgaa
open Go Go.Cx

theorem bt22_9 : bts Try.prog 22 9 = true := by kernel_rfl
theorem us9 : Try.prog.underlying 9 = some .string := by kernel_rfl
theorem cb22 : slB8 Try.prog 22 = true := by kernel_rfl
theorem go28 : isGo Try.prog 28 = true := by kernel_rfl
theorem go29 : isGo Try.prog 29 = true := by kernel_rfl

set_option maxHeartbeats 800000 in
theorem h_format (bs : List UInt8) (w0 : World) (hl : bs.length = 32) : C Try.prog 18 [.agg ⟨bs.flatMap encB⟩] w0 fun v w' => v = .string (bstr (Pl.fmt bs)) ∧ Ext No w0 w' := by
  refine C_of Try.func18 rfl rfl rfl fun κ hret hnorm => ?_
  have hm := Mem.start w0
  refine HW_seq rfl ?_
  refine HW_text (.act 0 (.pure 1 .done)) (by kernel_rfl) ?_
  refine a_box rfl rfl rfl rfl hm trivial fun m1 w hg_m1 hm hh => ?_
  refine rw_p rfl rfl (y_assign rfl) ?_
  refine rw_done ?_
  refine gn_sq ?_
  refine HW_seq rfl ?_
  refine HW_text (.act 0 (.pure 1 .done)) (by kernel_rfl) ?_
  refine a_make rfl rfl rfl rfl sl22 z5 rfl (by decide) (by decide) (by decide) hm trivial fun g_s w hg_s ha_s hm hh => ?_
  replace ha_s := ha_s.to (show _ = (Pl.fmt (bs.take 0)).flatMap encB from rfl)
  refine rw_p rfl rfl (y_assign rfl) ?_
  refine rw_done ?_
  refine gn_sq ?_
  refine HW_seq rfl ?_
  refine HW_seq rfl ?_
  refine HW_text (.pure 0 (.pure 1 .done)) (by kernel_rfl) ?_
  refine rw_p rfl rfl (y_loadA (s := 32) (vs := (bs.flatMap encB)) rfl ag24 (hm.nt 1 rfl) (nthsB hl)) ?_
  refine rw_p rfl rfl (y_move rfl) ?_
  refine rw_done ?_
  refine gn_sq ?_
  refine HW_block rfl ?_
  refine HW_loopK (ι := Nat × Option Addr × Nat × Nat × Blk) rfl (ks := [2, 7]) (.cons rfl (.cons rfl .nil)) (fun x => [(8, .int .i64 x.1), (3, .slice x.2.1 (Pl.fmt (bs.take x.1)).length x.2.2.1)]) (fun x w => Mem w0 w No [(x.2.2.2.1, x.2.2.2.2)] ∧ Acc 5 1 x.2.1 (Pl.fmt (bs.take x.1)).length x.2.2.1 ((Pl.fmt (bs.take x.1)).flatMap encB) x.2.2.2.1 x.2.2.2.2 ∧ x.1 ≤ 32) (fun x => 32 - x.1) (0, _, _, _, _) (⟨(hm.pick [0] rfl), ha_s, Nat.zero_le _⟩) ⟨rfl, rfl, trivial⟩ (fun x w hM => ?_)
  obtain ⟨hm, ha_s, hk⟩ := hM
  refine HW_seq rfl ?_
  refine HW_text (.pure 0 .done) (by kernel_rfl) ?_
  refine rw_p rfl rfl (y_lt rfl rfl) ?_
  refine rw_done ?_
  refine gn_sq ?_
  refine HW_seq rfl ?_
  refine HW_cond rfl rfl (fun hc0 => ?_) (fun hc0 => ?_)
  ·
    obtain ⟨i, p_s, cap_s, g_s, b_s⟩ := x
    simp only at hm ha_s hk hc0 ⊢
    simp only [decide_eq_true_eq] at hc0
    obtain ⟨c, hi⟩ : ∃ y_, bs[i]? = some y_ := ⟨_, List.getElem?_eq_getElem (by omega)⟩
    have hc := c.toNat_lt
    have h1 := Pl.hex_get (n := c.toNat / 16) (by omega)
    have h2 := Pl.hex_get (n := c.toNat % 16) (Nat.mod_lt _ (by decide))
    have hfn := fmt_next hi
    have hfl : (Pl.fmt (bs.take i)).length = 2 * i := by rw [Pl.fmt_len, List.length_take]; omega
    refine HW_skip rfl ?_
    refine gn_sq ?_
    refine HW_seq rfl ?_
    refine HW_block rfl ?_
    refine HW_seq rfl ?_
    refine HW_text (.pure 0 (.pure 1 .done)) (by kernel_rfl) ?_
    refine rw_p rfl rfl (y_indexV rfl rfl ar24 sc5 (by omega) (getB0 hi)) ?_
    refine rw_p rfl rfl (y_assign rfl) ?_
    refine rw_done ?_
    refine gn_sq ?_
    refine HW_draw (.pure 0 (.pure 1 (.pure 2 (.pure 3 (.pure 4 (.pure 5 (.pure 6 (.cut (.act 7 (.act 8 (.pure 9 .done))))))))))) No mix (by kernel_rfl) hm fun w hw hm0 hh => ?_
    have hm := hm0
    refine rw_p rfl rfl (y_move rfl) ?_
    refine rw_p rfl rfl (y_move rfl) ?_
    refine rw_p rfl rfl (y_shr rfl rfl (by decide) (b_shr4 c)) ?_
    refine rw_p rfl rfl (y_indexS (show ev _ (.const _) = some (Value.string (bstr Pl.hexL)) from rfl) rfl us9 h1) ?_
    refine rw_p rfl rfl (y_move rfl) ?_
    refine rw_p rfl rfl (y_and_ rfl rfl (b_and15 c)) ?_
    refine rw_p rfl rfl (y_indexS (show ev _ (.const _) = some (Value.string (bstr Pl.hexL)) from rfl) rfl us9 h2) ?_
    refine a_cut ?_
    refine a_buildSlice (l := [_, _]) rfl rfl sl22 z5 rfl rfl rfl rfl rfl rfl rfl hm trivial fun m2 w hg_m2 hm hh => ?_
    refine a_append rfl rfl rfl rfl rfl rfl sl22 sl22 z5 rfl rfl (Rd.row0 (hm.get (k := 0) rfl)) rfl ha_s hm 1 rfl (by omega) (by omega) fun p_s cap_s g_s b_s w ha_s hm => ?_
    replace ha_s := ha_s.to (show _ = (Pl.fmt (bs.take (i + 1))).flatMap encB by rw [hfn, List.flatMap_append]; rfl)
    have hne : (Pl.fmt (bs.take i)).length + 2 = (Pl.fmt (bs.take (i + 1))).length := by rw [hfn, List.length_append]; rfl
    refine rw_p rfl rfl (y_assign rfl) ?_
    refine rw_done ?_
    refine gn_bl ?_
    refine gn_sq ?_
    refine HW_text (.pure 0 (.pure 1 .done)) (by kernel_rfl) ?_
    refine rw_p rfl rfl (y_add rfl rfl (i64w (by omega) (by omega))) ?_
    refine rw_p rfl rfl (y_move rfl) ?_
    refine rw_done ?_
    exact next (i + 1, p_s, cap_s, g_s, b_s) (by simp only; omega) ⟨(hm.pick [1] rfl), by simp only; rw [← hne]; exact ha_s, by simp only; omega⟩ ⟨nx i, congrArg (fun z => some (Value.slice p_s z cap_s)) hne, rfl, rfl, trivial⟩
  ·
    obtain ⟨i, p_s, cap_s, g_s, b_s⟩ := x
    simp only at hm ha_s hk hc0 ⊢
    simp only [decide_eq_false_iff_not] at hc0
    obtain rfl : i = 32 := by omega
    rw [List.take_of_length_le (by omega)] at ha_s ⊢
    refine HW_exit rfl ?_
    refine gx_sq (gx_lp ?_)
    refine gx_here ?_
    refine gn_sq ?_
    refine HW_seq rfl ?_
    refine HW_text (.pure 0 (.pure 1 (.pure 2 .done))) (by kernel_rfl) ?_
    refine rw_p rfl rfl (y_move rfl) ?_
    refine rw_p rfl rfl (y_cvs rfl bt22_9 ((ha_s.rd hm 0 rfl).nt) ha_s.lenB) ?_
    refine rw_p rfl rfl (y_assign rfl) ?_
    refine rw_done ?_
    refine gn_sq ?_
    refine HW_ret rfl ?_
    refine toR (fin hret rfl (.tmp rfl .nil) .one ?_)
    exact ⟨rfl, hm.to⟩

theorem ix_b (p : Option Addr) (cap : Nat) (xs : List UInt8) (c : UInt8) (w0 : World) (hx : Rd w0 p (xs.flatMap encB)) (hlen : xs.length ≤ 9223372036854775807) : C Try.prog 28 [.slice p xs.length cap, .int .u8 (c.toNat : Int)] w0 fun v w' => v = .int .i64 (Pl.idx (fun y => decide (c = y)) xs) ∧ Ext No w0 w' := by
  refine C_of Try.func28 rfl rfl rfl fun κ hret hnorm => ?_
  have hm := Mem.start w0
  refine HW_seq rfl ?_
  refine HW_text (.pure 0 .done) (by kernel_rfl) ?_
  refine rw_p rfl rfl (y_assign rfl) ?_
  refine rw_done ?_
  refine gn_sq ?_
  refine HW_seq rfl ?_
  refine HW_seq rfl ?_
  refine HW_text (.pure 0 (.pure 1 (.pure 2 .done))) (by kernel_rfl) ?_
  refine rw_p rfl rfl (y_move rfl) ?_
  refine rw_p rfl rfl (y_len rfl rfl sl22) ?_
  refine rw_p rfl rfl (y_move rfl) ?_
  refine rw_done ?_
  refine gn_sq ?_
  refine HW_block rfl ?_
  refine HW_loopK (ι := Nat) rfl (ks := [0, 1, 7]) (.cons rfl (.cons rfl (.cons rfl .nil))) (fun k => [(8, .int .i64 k)]) (fun k w => Mem w0 w No [] ∧ k ≤ xs.length ∧ ∀ (j : Nat) y, j < k → xs[j]? = some y → decide (c = y) = false) (fun k => xs.length - k) 0 (⟨hm, Nat.zero_le _, fun _ _ h => absurd h (Nat.not_lt_zero _)⟩) ⟨rfl, trivial⟩ (fun k w hM => ?_)
  obtain ⟨hm, hk, hno⟩ := hM
  refine HW_seq rfl ?_
  refine HW_text (.pure 0 .done) (by kernel_rfl) ?_
  refine rw_p rfl rfl (y_lt rfl rfl) ?_
  refine rw_done ?_
  refine gn_sq ?_
  refine HW_seq rfl ?_
  refine HW_cond rfl rfl (fun hc0 => ?_) (fun hc0 => ?_)
  ·
    simp only [decide_eq_true_eq] at hc0
    obtain ⟨x, hi⟩ : ∃ y_, xs[k]? = some y_ := ⟨_, List.getElem?_eq_getElem (by omega)⟩
    obtain ⟨qb, qo, rfl⟩ := hx.atI encB_len (by decide) hi
    refine HW_skip rfl ?_
    refine gn_sq ?_
    refine HW_seq rfl ?_
    refine HW_block rfl ?_
    refine HW_seq rfl ?_
    refine HW_text (.pure 0 (.pure 1 .done)) (by kernel_rfl) ?_
    refine rw_p rfl rfl (y_move rfl) ?_
    refine rw_p rfl rfl (y_assign rfl) ?_
    refine rw_done ?_
    refine gn_sq ?_
    refine HW_seq rfl ?_
    refine HW_text (.pure 0 (.pure 1 (.pure 2 (.pure 3 (.pure 4 (.pure 5 .done)))))) (by kernel_rfl) ?_
    refine rw_p rfl rfl (y_move rfl) ?_
    refine rw_p rfl rfl (y_move rfl) ?_
    refine rw_p rfl rfl (y_move rfl) ?_
    refine rw_p rfl rfl (y_index rfl rfl sl22 rfl (by omega) (by omega)) ?_
    refine rw_p rfl rfl (y_el1 rfl sc5 (hx.ext0 hm.to).nt encB_len hi rfl) ?_
    refine rw_p rfl rfl (y_eq rfl rfl) ?_
    refine rw_done ?_
    refine gn_sq ?_
    refine HW_cond rfl rfl (fun hc1 => ?_) (fun hc1 => ?_)
    ·
      simp only [decide_eq_true_eq] at hc1
      have hcx : decide (c = x) = true := decide_eq_true (UInt8.toNat_inj.1 (by omega))
      refine HW_seq rfl ?_
      refine HW_text (.pure 0 (.pure 1 .done)) (by kernel_rfl) ?_
      refine rw_p rfl rfl (y_move rfl) ?_
      refine rw_p rfl rfl (y_assign rfl) ?_
      refine rw_done ?_
      refine gn_sq ?_
      refine HW_ret rfl ?_
      refine gr_bl (gr_sq (gr_lp (gr_bl (gr_sq ?_))))
      refine toR (fin hret rfl (.tmp rfl .nil) .one ?_)
      exact ⟨by rw [Pl.idx_first hi hcx hno], hm.to⟩
    ·
      simp only [decide_eq_false_iff_not] at hc1
      have hcx : decide (c = x) = false := decide_eq_false (fun e => hc1 (by rw [e]))
      refine HW_skip rfl ?_
      refine gn_bl ?_
      refine gn_sq ?_
      refine HW_text (.pure 0 (.pure 1 .done)) (by kernel_rfl) ?_
      refine rw_p rfl rfl (y_add rfl rfl (i64w (by omega) (by omega))) ?_
      refine rw_p rfl rfl (y_move rfl) ?_
      refine rw_done ?_
      refine next (k + 1) (by omega) ⟨hm, by omega, fun j y hj hy => ?_⟩ ⟨nx k, rfl, rfl, rfl, trivial⟩
      rcases Nat.lt_or_ge j k with h | h
      · exact hno j y h hy
      · obtain rfl : j = k := by omega
        rw [hi] at hy; cases hy; exact hcx
  ·
    have hk : k = xs.length := by simp at hc0; omega
    subst hk
    refine HW_exit rfl ?_
    refine gx_sq (gx_lp ?_)
    refine gx_here ?_
    refine gn_sq ?_
    refine HW_seq rfl ?_
    refine HW_text (.pure 0 .done) (by kernel_rfl) ?_
    refine rw_p rfl rfl (y_assign rfl) ?_
    refine rw_done ?_
    refine gn_sq ?_
    refine HW_ret rfl ?_
    refine toR (fin hret rfl (.tmp rfl .nil) .one ?_)
    exact ⟨by rw [Pl.idx_none hno], hm.to⟩

set_option maxHeartbeats 1600000 in
theorem h_parse (xs : List UInt8) (w0 : World) : C Try.prog 17 [.string (bstr xs)] w0 fun v w' => v = .tuple ⟨[.agg ⟨(Pl.parse xs).flatMap encB⟩, .bool (Pl.okP xs)]⟩ ∧ Ext No w0 w' := by
  refine C_of Try.func17 rfl rfl rfl fun κ hret hnorm => ?_
  have hm := Mem.start w0
  refine HW_seq rfl ?_
  refine HW_text (.act 0 (.pure 1 .done)) (by kernel_rfl) ?_
  refine a_alloc rfl rfl z24 hm trivial fun m1 w hg_m1 hm hh => ?_
  refine rw_p rfl rfl (y_assign rfl) ?_
  refine rw_done ?_
  refine gn_sq ?_
  refine HW_seq rfl ?_
  refine HW_text (.act 0 .done) (by kernel_rfl) ?_
  refine a_alloc rfl rfl z24 hm trivial fun m2 w hg_m2 hm hh => ?_
  refine rw_done ?_
  refine gn_sq ?_
  refine HW_seq rfl ?_
  refine HW_seq rfl ?_
  refine HW_text (.pure 0 (.pure 1 (.pure 2 .done))) (by kernel_rfl) ?_
  refine rw_p rfl rfl (y_move rfl) ?_
  refine rw_p rfl rfl (y_lenS rfl rfl us9) ?_
  refine rw_p rfl rfl (y_ne rfl rfl) ?_
  refine rw_done ?_
  refine gn_sq ?_
  refine HW_cond rfl rfl (fun hc0 => ?_) (fun hc0 => ?_)
  ·
    simp only [decide_eq_true_eq] at hc0
    have hl0 : ¬ xs.length = 64 := fun e => hc0 (congrArg Int.ofNat e)
    have ho : Pl.okP xs = false := by unfold Pl.okP; rw [decide_eq_false hl0]; rfl
    have hp : Pl.parse xs = List.replicate 32 0 := by unfold Pl.parse; rw [ho]; rfl
    refine HW_seq rfl ?_
    refine HW_text (.pure 0 (.act 1 (.pure 2 .done))) (by kernel_rfl) ?_
    refine rw_p rfl rfl (y_loadA (s := 32) (vs := [_, _, _, _, _, _, _, _, _, _, _, _, _, _, _, _, _, _, _, _, _, _, _, _, _, _, _, _, _, _, _, _]) rfl ag24 (hm.nt 0 rfl) rfl) ?_
    refine a_store rfl rfl rfl rfl sz24 rfl hm 1 rfl rfl fun w hm => ?_
    replace hm : Mem w0 _ No [(m2, .row 24 ((List.replicate 32 (0 : UInt8)).flatMap encB)), (m1, .row 24 ((List.replicate 32 (0 : UInt8)).flatMap encB))] := hm
    rw [← hp] at hm
    refine rw_p rfl rfl (y_assign rfl) ?_
    refine rw_done ?_
    refine gn_sq ?_
    refine HW_ret rfl ?_
    refine gr_sq ?_
    refine toR (fin hret rfl (.cell rfl (run_loadVar_a (vs := ((Pl.parse xs).flatMap encB)) ag24 (hm.get (k := 1) rfl) (nthsB (Pl.parse_len _))) (.tmp rfl .nil)) .more ?_)
    exact ⟨by rw [ho], hm.to⟩
  ·
    simp only [decide_eq_false_iff_not, Decidable.not_not] at hc0
    have hl : xs.length = 64 := by have : ((bstr xs).size : Int) = 64 := hc0; rw [bstr_size] at this; omega
    refine HW_skip rfl ?_
    refine gn_sq ?_
    refine HW_seq rfl ?_
    refine HW_seq rfl ?_
    refine HW_text (.pure 0 (.pure 1 (.pure 2 .done))) (by kernel_rfl) ?_
    refine rw_p rfl rfl (y_move rfl) ?_
    refine rw_p rfl rfl (y_lenS rfl rfl us9) ?_
    refine rw_p rfl rfl (y_move rfl) ?_
    refine rw_done ?_
    refine gn_sq ?_
    refine HW_block rfl ?_
    refine HW_loopK (ι := Nat) rfl (ks := [0, 2, 4, 12]) (.cons rfl (.cons rfl (.cons rfl (.cons rfl .nil)))) (fun x => [(13, .int .i64 x)]) (fun x w => Mem w0 w No [(m2, .row 24 ((Pl.parD xs x).flatMap encB)), (m1, .row 24 ((List.replicate 32 (0 : UInt8)).flatMap encB))] ∧ x ≤ 64 ∧ (xs.take x).all Pl.isHex = true) (fun x => 64 - x) 0 (⟨hm, Nat.zero_le _, rfl⟩) ⟨rfl, trivial⟩ (fun x w hM => ?_)
    obtain ⟨hm, hk, hall⟩ := hM
    refine HW_seq rfl ?_
    refine HW_text (.pure 0 .done) (by kernel_rfl) ?_
    refine rw_p rfl rfl (y_lt rfl rfl) ?_
    refine rw_done ?_
    refine gn_sq ?_
    refine HW_seq rfl ?_
    refine HW_cond rfl rfl (fun hc1 => ?_) (fun hc1 => ?_)
    ·
      simp only [decide_eq_true_eq] at hc1
      have hx64 : x < 64 := by have : (x : Int) < ((bstr xs).size : Int) := hc1; rw [bstr_size] at this; omega
      obtain ⟨c, hi⟩ : ∃ y_, xs[x]? = some y_ := ⟨_, List.getElem?_eq_getElem (by omega)⟩
      have hDl := Pl.parD_len xs x
      have hgi : (Pl.parD xs x)[x / 2]? = some ((Pl.parD xs x).getD (x / 2) 0) := by rw [List.getD_eq_getElem?_getD, List.getElem?_eq_getElem (by omega)]; rfl
      refine HW_skip rfl ?_
      refine gn_sq ?_
      refine HW_seq rfl ?_
      refine HW_block rfl ?_
      refine HW_seq rfl ?_
      refine HW_text (.pure 0 (.pure 1 .done)) (by kernel_rfl) ?_
      refine rw_p rfl rfl (y_move rfl) ?_
      refine rw_p rfl rfl (y_assign rfl) ?_
      refine rw_done ?_
      refine gn_sq ?_
      refine HW_seq rfl ?_
      refine HW_text (.act 0 (.act 1 (.pure 2 (.pure 3 (.pure 4 (.act 5 (.pure 6 .done))))))) (by kernel_rfl) ?_
      refine a_buildSlice (l := [_, _, _, _, _, _, _, _, _, _, _, _, _, _, _, _]) rfl rfl sl22 z5 rfl rfl rfl rfl rfl rfl rfl hm trivial fun m3 w hg_m3 hm hh => ?_
      refine a_mkd rfl rfl rfl cb22 hm 0 rfl fun w hm => ?_
      refine rw_p rfl rfl (y_move rfl) ?_
      refine rw_p rfl rfl (y_move rfl) ?_
      refine rw_p rfl rfl (y_indexS rfl rfl us9 hi) ?_
      refine a_call rfl rfl rfl go28 (ix_b _ _ Pl.hexL c _ (Rd.mkd (hm.get (k := 0) rfl)) (by decide)) fun v w hR => ?_
      obtain ⟨rfl, hE⟩ := hR
      refine ⟨trivial, ?_⟩
      replace hm := hm.ext hE
      refine rw_p rfl rfl (y_assign rfl) ?_
      refine rw_done ?_
      refine gn_sq ?_
      refine HW_seq rfl ?_
      refine HW_seq rfl ?_
      refine HW_text (.pure 0 (.pure 1 .done)) (by kernel_rfl) ?_
      refine rw_p rfl rfl (y_move rfl) ?_
      refine rw_p rfl rfl (y_lt rfl rfl) ?_
      refine rw_done ?_
      refine gn_sq ?_
      refine HW_cond rfl rfl (fun hc2 => ?_) (fun hc2 => ?_)
      ·
        simp only [decide_eq_true_eq] at hc2
        have ho : Pl.okP xs = false := by
          unfold Pl.okP
          have : xs.all Pl.isHex = false := by
            rw [List.all_eq_false]; exact ⟨c, List.mem_of_getElem? hi, by unfold Pl.isHex Pl.hxI; simp; exact hc2⟩
          rw [this, Bool.and_false]
        have hp : Pl.parse xs = List.replicate 32 0 := by unfold Pl.parse; rw [ho]; rfl
        refine HW_seq rfl ?_
        refine HW_text (.pure 0 (.act 1 (.pure 2 .done))) (by kernel_rfl) ?_
        refine rw_p rfl rfl (y_build (cs := [_, _, _, _, _, _, _, _, _, _, _, _, _, _, _, _, _, _, _, _, _, _, _, _, _, _, _, _, _, _, _, _]) z24 ft24 rfl rfl rfl rfl rfl) ?_
        refine a_store rfl rfl rfl rfl sz24 rfl hm 2 rfl rfl fun w hm => ?_
        replace hm : Mem w0 _ No [(m1, .row 24 ((List.replicate 32 (0 : UInt8)).flatMap encB))] := (hm.pick [2] rfl)
        rw [← hp] at hm
        refine rw_p rfl rfl (y_assign rfl) ?_
        refine rw_done ?_
        refine gn_sq ?_
        refine HW_ret rfl ?_
        refine gr_sq (gr_bl (gr_sq (gr_lp (gr_bl (gr_sq ?_)))))
        refine toR (fin hret rfl (.cell rfl (run_loadVar_a (vs := ((Pl.parse xs).flatMap encB)) ag24 (hm.get (k := 0) rfl) (nthsB (Pl.parse_len _))) (.tmp rfl .nil)) .more ?_)
        exact ⟨by rw [ho], hm.to⟩
      ·
        simp only [decide_eq_false_iff_not] at hc2
        have hxc : Pl.isHex c = true := by unfold Pl.isHex; exact decide_eq_true (by unfold Pl.hxI; omega)
        refine HW_skip rfl ?_
        refine gn_sq ?_
        refine HW_text (.pure 0 (.pure 1 (.pure 2 (.pure 3 (.pure 4 (.pure 5 (.pure 6 (.pure 7 (.pure 8 (.pure 9 (.pure 10 (.act 11 .done)))))))))))) (by kernel_rfl) ?_
        refine rw_p rfl rfl (y_move rfl) ?_
        refine rw_p rfl rfl (y_quo rfl rfl (by decide) (quoK x 2 (by omega) (by decide))) ?_
        refine rw_p rfl rfl (y_move rfl) ?_
        refine rw_p rfl rfl (y_quo rfl rfl (by decide) (quoK x 2 (by omega) (by decide))) ?_
        refine rw_p rfl rfl (y_indexP rfl rfl ar24 (Int.natCast_nonneg _) (by omega)) ?_
        refine rw_p rfl rfl (y_load rfl sc5 (hm.nt 1 rfl) (getB0 hgi)) ?_
        refine rw_p rfl rfl (y_shl rfl rfl (by decide) (b_shl4 _)) ?_
        refine rw_p rfl rfl (y_move rfl) ?_
        refine rw_p rfl rfl (y_conv rfl is3 it5 (b_hval (by unfold Pl.hxI; omega))) ?_
        refine rw_p rfl rfl (y_or_ rfl rfl b_or) ?_
        refine rw_p rfl rfl (y_indexP rfl rfl ar24 (Int.natCast_nonneg _) (by omega)) ?_
        refine a_store rfl rfl rfl rfl sz5 rfl hm 1 rfl (by rw [Nat.ble_eq, lenB, hDl]; simp only [List.length_singleton]; omega) fun w hm => ?_
        have hm2 : Mem w0 w No [(m2, .row 24 (upds ((Pl.parD xs x).flatMap encB) (0 + (x / 2) * 1) [.int .u8 (((((Pl.parD xs x).getD (x / 2) 0) <<< 4) ||| Pl.hval c).toNat : Int)])), (m1, .row 24 ((List.replicate 32 (0 : UInt8)).flatMap encB))] := (hm.pick [1, 2] rfl)
        rw [setB0, show Pl.hval c = Pl.hval (xs.getD x 0) by rw [List.getD_eq_getElem?_getD, hi]; rfl] at hm2
        refine rw_done ?_
        refine gn_bl ?_
        refine gn_sq ?_
        refine HW_text (.pure 0 (.pure 1 .done)) (by kernel_rfl) ?_
        refine rw_p rfl rfl (y_add rfl rfl (i64w (by omega) (by omega))) ?_
        refine rw_p rfl rfl (y_move rfl) ?_
        refine rw_done ?_
        refine next (x + 1) (by omega) ⟨hm2, by omega, by rw [Pl.take_snoc hi, List.all_append, hall]; simp [hxc]⟩ ⟨nx x, rfl, rfl, rfl, rfl, trivial⟩
    ·
      simp only [decide_eq_false_iff_not] at hc1
      obtain rfl : x = 64 := by have : ¬ (x : Int) < ((bstr xs).size : Int) := hc1; rw [bstr_size] at this; omega
      rw [List.take_of_length_le (by omega)] at hall
      have ho : Pl.okP xs = true := by unfold Pl.okP; rw [decide_eq_true hl, hall]; rfl
      have hp : Pl.parse xs = Pl.parD xs 64 := by unfold Pl.parse; rw [if_pos ho]
      rw [← hp] at hm
      refine HW_exit rfl ?_
      refine gx_sq (gx_lp ?_)
      refine gx_here ?_
      refine gn_sq ?_
      refine HW_seq rfl ?_
      refine HW_text (.pure 0 (.act 1 (.pure 2 .done))) (by kernel_rfl) ?_
      refine rw_p rfl rfl (y_loadA (s := 32) (vs := ((Pl.parse xs).flatMap encB)) rfl ag24 (hm.nt 0 rfl) (nthsB (Pl.parse_len _))) ?_
      refine a_store rfl rfl rfl rfl (sz24.trans (congrArg some (lenB32 (Pl.parse_len _)).symm)) (oneB _) hm 1 rfl (by rw [Nat.ble_eq, lenB32 (Pl.parse_len _), lenB32 List.length_replicate]; exact Nat.le_refl 32) fun w hm => ?_
      rw [upds_all (by rw [lenB32 (Pl.parse_len _), lenB32 List.length_replicate])] at hm
      refine rw_p rfl rfl (y_assign rfl) ?_
      refine rw_done ?_
      refine gn_sq ?_
      refine HW_ret rfl ?_
      refine toR (fin hret rfl (.cell rfl (run_loadVar_a (vs := ((Pl.parse xs).flatMap encB)) ag24 (hm.get (k := 1) rfl) (nthsB (Pl.parse_len _))) (.tmp rfl .nil)) .more ?_)
      exact ⟨by rw [ho], hm.to⟩

set_option maxHeartbeats 800000 in
theorem r2_format (bs : List UInt8) (w0 : World) (hl : bs.length = 32) : C Try.prog 19 [.agg ⟨bs.flatMap encB⟩] w0 fun v w' => v = .string (bstr (Pl.fmt bs)) ∧ Ext No w0 w' := by
  refine C_of Try.func19 rfl rfl rfl fun κ hret hnorm => ?_
  have hm := Mem.start w0
  refine HW_seq rfl ?_
  refine HW_text (.act 0 (.pure 1 .done)) (by kernel_rfl) ?_
  refine a_box rfl rfl rfl rfl hm trivial fun m1 w hg_m1 hm hh => ?_
  refine rw_p rfl rfl (y_assign rfl) ?_
  refine rw_done ?_
  refine gn_sq ?_
  refine HW_seq rfl ?_
  refine HW_text (.pure 0 .done) (by kernel_rfl) ?_
  refine rw_p rfl rfl (y_assign rfl) ?_
  refine rw_done ?_
  refine gn_sq ?_
  refine HW_seq rfl ?_
  refine HW_seq rfl ?_
  refine HW_text (.pure 0 .done) (by kernel_rfl) ?_
  refine rw_p rfl rfl (y_assign rfl) ?_
  refine rw_done ?_
  refine gn_sq ?_
  refine HW_block rfl ?_
  refine HW_loopK (ι := Nat) rfl (ks := [1, 2]) (.cons rfl (.cons rfl .nil)) (fun i => [(4, .int .i64 i), (3, .string (bstr (Pl.fmt (bs.take i))))]) (fun i w => Mem w0 w No [(m1, .row 24 (bs.flatMap encB))] ∧ i ≤ 32) (fun i => 32 - i) 0 (⟨hm, Nat.zero_le _⟩) ⟨rfl, rfl, trivial⟩ (fun i w hM => ?_)
  obtain ⟨hm, hk⟩ := hM
  refine HW_seq rfl ?_
  refine HW_seq rfl ?_
  refine HW_text (.pure 0 (.pure 1 .done)) (by kernel_rfl) ?_
  refine rw_p rfl rfl (y_move rfl) ?_
  refine rw_p rfl rfl (y_lt rfl rfl) ?_
  refine rw_done ?_
  refine gn_sq ?_
  refine HW_cond rfl rfl (fun hc0 => ?_) (fun hc0 => ?_)
  ·
    simp only [decide_eq_true_eq] at hc0
    obtain ⟨c, hi⟩ : ∃ y_, bs[i]? = some y_ := ⟨_, List.getElem?_eq_getElem (by omega)⟩
    have hc := c.toNat_lt
    have h1 := Pl.hex_get (n := c.toNat / 16) (by omega)
    have h2 := Pl.hex_get (n := c.toNat % 16) (Nat.mod_lt _ (by decide))
    have hfn := fmt_next hi
    have hfl : (Pl.fmt (bs.take i)).length = 2 * i := by rw [Pl.fmt_len, List.length_take]; omega
    refine HW_skip rfl ?_
    refine gn_sq ?_
    refine HW_seq rfl ?_
    refine HW_block rfl ?_
    refine HW_draw (.pure 0 (.pure 1 (.pure 2 (.pure 3 (.pure 4 (.pure 5 (.pure 6 (.pure 7 (.pure 8 (.pure 9 (.pure 10 (.pure 11 (.pure 12 (.pure 13 (.pure 14 (.pure 15 (.pure 16 (.pure 17 (.pure 18 (.pure 19 (.pure 20 (.pure 21 (.pure 22 (.pure 23 .done)))))))))))))))))))))))) No mix (by kernel_rfl) hm fun w hw hm0 hh => ?_
    have hm := hm0
    refine rw_p rfl rfl (y_move rfl) ?_
    refine rw_p rfl rfl (y_move rfl) ?_
    refine rw_p rfl rfl (y_indexP rfl rfl ar24 (Int.natCast_nonneg _) (by omega)) ?_
    refine rw_p rfl rfl (y_load rfl sc5 (hm0.nd 0 rfl id) (getB0 hi)) ?_
    refine rw_p rfl rfl (y_quo rfl rfl (by decide) (b_quo16 c)) ?_
    refine rw_p rfl rfl (y_move rfl) ?_
    refine rw_p rfl rfl (y_indexP rfl rfl ar24 (Int.natCast_nonneg _) (by omega)) ?_
    refine rw_p rfl rfl (y_load rfl sc5 (hm0.nd 0 rfl id) (getB0 hi)) ?_
    refine rw_p rfl rfl (y_quo rfl rfl (by decide) (b_quo16 c)) ?_
    refine rw_p rfl rfl (y_add rfl rfl (b_add1 (by omega))) ?_
    refine rw_p rfl rfl (y_v (y_sliceS (ln := (c.toNat / 16)) (hn := (c.toNat / 16 + 1)) rfl us9 ⟨_, rfl⟩ ⟨_, rfl⟩ (by omega) (show _ ≤ 16 by omega)) (show _ = Value.string (bstr [Pl.hx (c.toNat / 16)]) from congrArg (fun z => Value.string (bstr z)) (take1 h1 _ (by omega)))) ?_
    refine rw_p rfl rfl (y_cat rfl rfl (by rw [hfl]; simp only [List.length_singleton]; omega)) ?_
    refine rw_p rfl rfl (y_move rfl) ?_
    refine rw_p rfl rfl (y_indexP rfl rfl ar24 (Int.natCast_nonneg _) (by omega)) ?_
    refine rw_p rfl rfl (y_load rfl sc5 (hm0.nd 0 rfl id) (getB0 hi)) ?_
    refine rw_p rfl rfl (y_rem rfl rfl (by decide) (remK c.toNat 16)) ?_
    refine rw_p rfl rfl (y_move rfl) ?_
    refine rw_p rfl rfl (y_indexP rfl rfl ar24 (Int.natCast_nonneg _) (by omega)) ?_
    refine rw_p rfl rfl (y_load rfl sc5 (hm0.nd 0 rfl id) (getB0 hi)) ?_
    refine rw_p rfl rfl (y_rem rfl rfl (by decide) (remK c.toNat 16)) ?_
    refine rw_p rfl rfl (y_add rfl rfl (b_add1 (by omega))) ?_
    refine rw_p rfl rfl (y_v (y_sliceS (ln := (c.toNat % 16)) (hn := (c.toNat % 16 + 1)) rfl us9 ⟨_, rfl⟩ ⟨_, rfl⟩ (by omega) (show _ ≤ 16 by omega)) (show _ = Value.string (bstr [Pl.hx (c.toNat % 16)]) from congrArg (fun z => Value.string (bstr z)) (take1 h2 _ (by omega)))) ?_
    refine rw_p rfl rfl (y_cat rfl rfl (by rw [List.length_append, hfl]; simp only [List.length_singleton]; omega)) ?_
    refine rw_p rfl rfl (y_assign rfl) ?_
    refine rw_done ?_
    refine gn_bl ?_
    refine gn_sq ?_
    refine HW_text (.pure 0 (.pure 1 (.pure 2 .done))) (by kernel_rfl) ?_
    refine rw_p rfl rfl (y_move rfl) ?_
    refine rw_p rfl rfl (y_add rfl rfl (i64w (by omega) (by omega))) ?_
    refine rw_p rfl rfl (y_assign rfl) ?_
    refine rw_done ?_
    exact next (i + 1) (by omega) ⟨hm, by omega⟩ ⟨nx i, by rw [hfn]; exact congrArg (fun z => some (Value.string (bstr z))) (by rw [List.append_assoc]; rfl), rfl, rfl, trivial⟩
  ·
    simp only [decide_eq_false_iff_not] at hc0
    obtain rfl : i = 32 := by omega
    rw [List.take_of_length_le (by omega)]
    refine HW_exit rfl ?_
    refine gx_sq (gx_lp ?_)
    refine gx_here ?_
    refine gn_sq ?_
    refine HW_seq rfl ?_
    refine HW_text (.pure 0 (.pure 1 .done)) (by kernel_rfl) ?_
    refine rw_p rfl rfl (y_move rfl) ?_
    refine rw_p rfl rfl (y_assign rfl) ?_
    refine rw_done ?_
    refine gn_sq ?_
    refine HW_ret rfl ?_
    refine toR (fin hret rfl (.tmp rfl .nil) .one ?_)
    exact ⟨rfl, hm.to⟩

set_option maxHeartbeats 400000 in
theorem r2_right (xs : List UInt8) (w0 : World) (hl : xs.length ≤ 300) : C Try.prog 20 [.string (bstr xs)] w0 fun v w' => v = .bool (Pl.okP xs) ∧ Ext No w0 w' := by
  refine C_of Try.func20 rfl rfl rfl fun κ hret hnorm => ?_
  have hm := Mem.start w0
  refine HW_seq rfl ?_
  refine HW_text (.pure 0 .done) (by kernel_rfl) ?_
  refine rw_p rfl rfl (y_assign rfl) ?_
  refine rw_done ?_
  refine gn_sq ?_
  refine HW_seq rfl ?_
  refine HW_seq rfl ?_
  refine HW_text (.pure 0 .done) (by kernel_rfl) ?_
  refine rw_p rfl rfl (y_assign rfl) ?_
  refine rw_done ?_
  refine gn_sq ?_
  refine HW_block rfl ?_
  refine HW_loopK (ι := Nat) rfl (ks := [0]) (.cons rfl .nil) (fun i => [(3, .int .i64 i)]) (fun i w => Mem w0 w No [] ∧ i ≤ xs.length ∧ (xs.take i).all Pl.inRng = true) (fun i => xs.length - i) 0 (⟨hm, Nat.zero_le _, rfl⟩) ⟨rfl, trivial⟩ (fun i w hM => ?_)
  obtain ⟨hm, hk, hall⟩ := hM
  refine HW_seq rfl ?_
  refine HW_seq rfl ?_
  refine HW_text (.pure 0 (.pure 1 (.pure 2 (.pure 3 .done)))) (by kernel_rfl) ?_
  refine rw_p rfl rfl (y_move rfl) ?_
  refine rw_p rfl rfl (y_move rfl) ?_
  refine rw_p rfl rfl (y_lenS rfl rfl us9) ?_
  refine rw_p rfl rfl (y_lt rfl rfl) ?_
  refine rw_done ?_
  refine gn_sq ?_
  refine HW_cond rfl rfl (fun hc0 => ?_) (fun hc0 => ?_)
  ·
    simp only [decide_eq_true_eq] at hc0
    have hlt : i < xs.length := by have : (i : Int) < ((bstr xs).size : Int) := hc0; rw [bstr_size] at this; omega
    obtain ⟨c, hi⟩ : ∃ y_, xs[i]? = some y_ := ⟨_, List.getElem?_eq_getElem hlt⟩
    refine HW_skip rfl ?_
    refine gn_sq ?_
    refine HW_seq rfl ?_
    refine HW_block rfl ?_
    refine HW_seq rfl ?_
    refine HW_text (.pure 0 (.pure 1 (.pure 2 (.pure 3 (.pure 4 (.pure 5 (.pure 6 (.pure 7 (.pure 8 (.pure 9 (.pure 10 (.pure 11 (.pure 12 (.pure 13 (.pure 14 (.pure 15 (.pure 16 (.pure 17 (.pure 18 (.pure 19 (.pure 20 (.pure 21 (.pure 22 .done))))))))))))))))))))))) (by kernel_rfl) ?_
    refine rw_p rfl rfl (y_move rfl) ?_
    refine rw_p rfl rfl (y_move rfl) ?_
    refine rw_p rfl rfl (y_indexS rfl rfl us9 hi) ?_
    refine rw_p rfl rfl (y_ge rfl rfl) ?_
    refine rw_p rfl rfl (y_move rfl) ?_
    refine rw_g rfl rfl rfl (fun hc => (y_move rfl)) ?_
    refine rw_g rfl rfl rfl (fun hc => (y_move rfl)) ?_
    refine rw_g rfl rfl rfl (fun hc => (y_indexS (gx hc rfl) (gx hc rfl) us9 hi)) ?_
    refine rw_g rfl rfl rfl (fun hc => (y_le (gx hc rfl) rfl)) ?_
    refine rw_p rfl rfl (y_and rfl rfl rfl) ?_
    refine rw_p rfl rfl (y_move rfl) ?_
    refine rw_g rfl rfl rfl (fun hc => (y_move rfl)) ?_
    refine rw_g rfl rfl rfl (fun hc => (y_move rfl)) ?_
    refine rw_g rfl rfl rfl (fun hc => (y_indexS (gx hc rfl) (gx hc rfl) us9 hi)) ?_
    refine rw_g rfl rfl rfl (fun hc => (y_ge (gx hc rfl) rfl)) ?_
    refine rw_g rfl rfl rfl (fun hc => (y_move (gx hc rfl))) ?_
    refine rw_gg rfl rfl rfl (fun hc => (y_move rfl)) ?_
    refine rw_gg rfl rfl rfl (fun hc => (y_move rfl)) ?_
    refine rw_gg rfl rfl rfl (fun hc => (y_indexS (gx hc rfl) (gx hc rfl) us9 hi)) ?_
    refine rw_gg rfl rfl rfl (fun hc => (y_le (gx hc rfl) rfl)) ?_
    refine rw_g rfl rfl rfl (fun hc => (y_and (gx hc rfl) (gvn hc rfl) rfl)) ?_
    refine rw_p rfl rfl (y_or rfl rfl rfl) ?_
    refine rw_p rfl rfl (y_not rfl) ?_
    refine rw_done ?_
    refine gn_sq ?_
    refine HW_cond rfl rfl (fun hc1 => ?_) (fun hc1 => ?_)
    ·
      have hcr : Pl.inRng c = false := by unfold Pl.inRng; rw [← Bool.not_eq_true']; rw [← hc1]; congr 1; rw [Bool.eq_iff_iff]; simp; omega
      have ho : Pl.okP xs = false := by rw [← Pl.right_ok, List.all_eq_false.2 ⟨c, List.mem_of_getElem? hi, by rw [hcr]; simp⟩]; rfl
      refine HW_seq rfl ?_
      refine HW_text (.pure 0 .done) (by kernel_rfl) ?_
      refine rw_p rfl rfl (y_assign rfl) ?_
      refine rw_done ?_
      refine gn_sq ?_
      refine HW_ret rfl ?_
      refine gr_bl (gr_sq (gr_lp (gr_bl (gr_sq ?_))))
      refine toR (fin hret rfl (.tmp rfl .nil) .one ?_)
      exact ⟨by rw [ho], hm.to⟩
    ·
      have hcr : Pl.inRng c = true := by unfold Pl.inRng; rw [← Bool.not_eq_false']; rw [← hc1]; congr 1; rw [Bool.eq_iff_iff]; simp; omega
      refine HW_skip rfl ?_
      refine gn_bl ?_
      refine gn_sq ?_
      refine HW_text (.pure 0 (.pure 1 (.pure 2 .done))) (by kernel_rfl) ?_
      refine rw_p rfl rfl (y_move rfl) ?_
      refine rw_p rfl rfl (y_add rfl rfl (i64w (by omega) (by omega))) ?_
      refine rw_p rfl rfl (y_assign rfl) ?_
      refine rw_done ?_
      exact next (i + 1) (by omega) ⟨hm, by omega, by rw [Pl.take_snoc hi, List.all_append, hall]; simp [hcr]⟩ ⟨nx i, rfl, trivial⟩
  ·
    simp only [decide_eq_false_iff_not] at hc0
    obtain rfl : i = xs.length := by have : ¬ (i : Int) < ((bstr xs).size : Int) := hc0; rw [bstr_size] at this; omega
    rw [List.take_length] at hall
    refine HW_exit rfl ?_
    refine gx_sq (gx_lp ?_)
    refine gx_here ?_
    refine gn_sq ?_
    refine HW_seq rfl ?_
    refine HW_text (.pure 0 (.pure 1 (.pure 2 (.pure 3 .done)))) (by kernel_rfl) ?_
    refine rw_p rfl rfl (y_move rfl) ?_
    refine rw_p rfl rfl (y_lenS rfl rfl us9) ?_
    refine rw_p rfl rfl (y_eq rfl rfl) ?_
    refine rw_p rfl rfl (y_assign rfl) ?_
    refine rw_done ?_
    refine gn_sq ?_
    refine HW_ret rfl ?_
    refine toR (fin hret rfl (.tmp rfl .nil) .one ?_)
    exact ⟨by rw [← Pl.right_ok, hall, Bool.true_and]; exact congrArg Value.bool (by rw [Bool.eq_iff_iff, decide_eq_true_eq, decide_eq_true_eq, bstr_size]; omega), hm.to⟩

theorem hp_lite (xs ys : List UInt8) (w0 : World) : C Try.prog 29 [.string (bstr xs), .string (bstr ys)] w0 fun v w' => v = .bool (decide (ys.length ≤ xs.length) && decide (xs.take ys.length = ys)) ∧ Ext No w0 w' := by
  refine C_of Try.func29 rfl rfl rfl fun κ hret hnorm => ?_
  have hm := Mem.start w0
  refine HW_seq rfl ?_
  refine HW_text (.pure 0 .done) (by kernel_rfl) ?_
  refine rw_p rfl rfl (y_assign rfl) ?_
  refine rw_done ?_
  refine gn_sq ?_
  refine HW_seq rfl ?_
  refine HW_text (.pure 0 (.pure 1 (.pure 2 (.pure 3 (.pure 4 (.pure 5 (.pure 6 (.pure 7 (.pure 8 (.pure 9 (.pure 10 (.pure 11 (.pure 12 (.pure 13 .done)))))))))))))) (by kernel_rfl) ?_
  refine rw_p rfl rfl (y_move rfl) ?_
  refine rw_p rfl rfl (y_lenS rfl rfl us9) ?_
  refine rw_p rfl rfl (y_move rfl) ?_
  refine rw_p rfl rfl (y_lenS rfl rfl us9) ?_
  refine rw_p rfl rfl (y_ge rfl rfl) ?_
  refine rw_p rfl rfl (y_move rfl) ?_
  refine rw_g rfl rfl rfl (fun hc => (y_move rfl)) ?_
  refine rw_g rfl rfl rfl (fun hc => (y_move rfl)) ?_
  refine rw_g rfl rfl rfl (fun hc => (y_lenS (gx hc rfl) rfl us9)) ?_
  refine rw_g rfl rfl rfl (fun hc => (y_sliceS (ln := 0) (hn := ys.length) (gx hc rfl) us9 rfl ⟨_, gx hc rfl⟩ (Nat.zero_le _) (by have h9 := of_decide_eq_true hc; simp only [bstr_size] at h9; omega))) ?_
  refine rw_g rfl rfl rfl (fun hc => (y_move rfl)) ?_
  refine rw_g rfl rfl rfl (fun hc => (y_seqB (gx hc rfl) (gx hc rfl))) ?_
  refine rw_p rfl rfl (y_and rfl rfl rfl) ?_
  refine rw_p rfl rfl (y_assign rfl) ?_
  refine rw_done ?_
  refine gn_sq ?_
  refine HW_ret rfl ?_
  refine toR (fin hret rfl (.tmp rfl .nil) .one ?_)
  exact ⟨congrArg Value.bool (by rw [bstr_size, bstr_size, List.drop_zero, Nat.sub_zero]; congr 1; rw [Bool.eq_iff_iff]; simp), hm.to⟩

theorem hp_str (xs ys : List UInt8) (w0 : World) : C Try.prog 21 [.string (bstr xs), .string (bstr ys)] w0 fun v w' => v = .bool (decide (ys.length ≤ xs.length) && decide (xs.take ys.length = ys)) ∧ Ext No w0 w' := by
  refine C_of Try.func21 rfl rfl rfl fun κ hret hnorm => ?_
  have hm := Mem.start w0
  refine HW_seq rfl ?_
  refine HW_text (.pure 0 .done) (by kernel_rfl) ?_
  refine rw_p rfl rfl (y_assign rfl) ?_
  refine rw_done ?_
  refine gn_sq ?_
  refine HW_seq rfl ?_
  refine HW_text (.pure 0 (.pure 1 (.act 2 (.pure 3 .done)))) (by kernel_rfl) ?_
  refine rw_p rfl rfl (y_move rfl) ?_
  refine rw_p rfl rfl (y_move rfl) ?_
  refine a_call rfl rfl rfl go29 (hp_lite xs ys _) fun v w hR => ?_
  obtain ⟨rfl, hE⟩ := hR
  refine ⟨trivial, ?_⟩
  replace hm := hm.ext hE
  refine rw_p rfl rfl (y_assign rfl) ?_
  refine rw_done ?_
  refine gn_sq ?_
  refine HW_ret rfl ?_
  refine toR (fin hret rfl (.tmp rfl .nil) .one ?_)
  exact ⟨rfl, hm.to⟩

end Go.Proofs.Ytdiklnekplhhgaa
