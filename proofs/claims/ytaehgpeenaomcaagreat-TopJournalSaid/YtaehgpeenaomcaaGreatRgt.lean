/- Contracts of functions of the program: what each returns. Conditions: the hypotheses of each theorem. -/
import Derived.Test.YtaehgpeenaomcaaGreatDlC
set_option linter.unusedVariables false
set_option linter.unusedSimpArgs false
namespace Go.Proofs.YtaehgpeenaomcaaGreat
open Go Go.Cx

theorem go55 : isGo Tryz.prog 55 = true := by kernel_rfl
theorem go33 : isGo Tryz.prog 33 = true := by kernel_rfl

def few18 (s : Int) (xs : List CmdV) : Bool := decide (xs.length ≤ 30 ∧ 1 ≤ s ∧ (∀ c ∈ xs, Pl.ccheck c.cm = 0 ∧ c.d.bs.length ≤ 300 ∧ Pl.chCount c.cm s ≤ 300) ∧ Pl.first s (xs.map CmdV.cm) xs.length ≤ 300)
def caV (r : Option Addr) (n cr : Nat) (o nn : Int) (H : Nat → UInt8) (q : Option Addr) (len cq : Nat) (s b m : Int) : List Value := .slice r n cr :: (dlV o nn H q len cq ++ [.int .i64 s, .int .i64 b, .int .i64 m])
theorem smb {oo nn b : Int} {cs : List CmdV} (h : (bif (decide ((cs.length : Int) > 20) || decide (oo > 300) || decide (nn > 300) || !(cs.all (fun c => decide (c.d.bs.length ≤ 300)) && decide (cs.length ≤ 40)) || !Pl.vdB oo nn (cs.map CmdV.cm) || decide (b > 300)) then false else (Pl.valid 0 nn && (decide (b < 1) || few18 b cs))) = true) : cs.length ≤ 20 ∧ nn ≤ 300 ∧ b ≤ 300 ∧ Pl.valid 0 nn = true := by
  cases hq : (decide ((cs.length : Int) > 20) || decide (oo > 300) || decide (nn > 300) || !(cs.all (fun c => decide (c.d.bs.length ≤ 300)) && decide (cs.length ≤ 40)) || !Pl.vdB oo nn (cs.map CmdV.cm) || decide (b > 300)) with
  | true => rw [hq] at h; cases h
  | false =>
    rw [hq] at h
    simp only [cond_false, Bool.and_eq_true] at h
    simp only [Bool.or_eq_false_iff, decide_eq_false_iff_not] at hq
    exact ⟨by omega, by omega, by omega, h.1⟩
theorem sm20 {x : Bool} {oo nn b : Int} {cs : List CmdV} (h : (x || !(bif (decide ((cs.length : Int) > 20) || decide (oo > 300) || decide (nn > 300) || !(cs.all (fun c => decide (c.d.bs.length ≤ 300)) && decide (cs.length ≤ 40)) || !Pl.vdB oo nn (cs.map CmdV.cm) || decide (b > 300)) then false else (Pl.valid 0 nn && (decide (b < 1) || few18 b cs)))) = false) : cs.length ≤ 20 := by
  rw [Bool.or_eq_false_iff, Bool.not_eq_false'] at h
  exact (smb h.2).1
theorem rbf {f : List UInt8} {oo nn sz bd mo : Int} {cs : List CmdV} (h : (decide ((f.length : Int) > 300) || !(bif (decide ((cs.length : Int) > 20) || decide (oo > 300) || decide (nn > 300) || !(cs.all (fun c => decide (c.d.bs.length ≤ 300)) && decide (cs.length ≤ 40)) || !Pl.vdB oo nn (cs.map CmdV.cm) || decide (bd > 300)) then false else (Pl.valid 0 nn && (decide (bd < 1) || few18 bd cs))) || !((cs.all (fun c => decide (c.d.bs.length ≤ 300)) && decide (cs.length ≤ 40)) && Pl.vdB oo nn (cs.map CmdV.cm) && decide (oo = f.length) && decide (nn ≤ 3000)) || decide (bd < 1) || decide (sz < 1) || decide (sz > 1000) || decide (mo < 0) || decide (mo > 100)) = false) : oo = f.length ∧ f.length ≤ 300 ∧ nn ≤ 300 ∧ Pl.valid 0 nn = true ∧ 1 ≤ bd ∧ bd ≤ 300 ∧ 1 ≤ sz ∧ sz ≤ 1000 := by
  rw [Bool.or_eq_false_iff, Bool.or_eq_false_iff, Bool.or_eq_false_iff, Bool.or_eq_false_iff, Bool.or_eq_false_iff, Bool.or_eq_false_iff, Bool.or_eq_false_iff] at h
  obtain ⟨⟨⟨⟨⟨⟨⟨a1, a2⟩, a3⟩, a4⟩, a5⟩, a6⟩, a7⟩, a8⟩ := h
  rw [Bool.not_eq_false'] at a2 a3
  obtain ⟨b1, b2, b3, b4⟩ := smb a2
  simp only [Bool.and_eq_true, decide_eq_true_eq] at a3
  simp only [decide_eq_false_iff_not] at a1 a4 a5 a6
  exact ⟨a3.1.2, by omega, b2, b4, by omega, b3, by omega, by omega⟩


set_option maxHeartbeats 400000 in
theorem r18_few (s : Int) (q : Option Addr) (cq : Nat) (xs : List CmdV) (w0 : World) (hx : Rd w0 q (xs.flatMap encC)) (hok : ∀ c ∈ xs, okC w0 c) (hl : xs.length ≤ 9223372036854775807) (hs : Pl.I64 s) : C Tryz.prog 33 [.int .i64 s, .slice q xs.length cq] w0 fun v w' => v = .bool (few18 s xs) ∧ Ext No w0 w' := by
  refine C_of Tryz.func33 rfl rfl rfl fun κ hret hnorm => ?_
  have hm := Mem.start w0
  refine HW_seq rfl ?_
  refine HW_text (.pure 0 .done) (by kernel_rfl) ?_
  refine rw_p rfl rfl (y_assign rfl) ?_
  refine rw_done ?_
  refine gn_sq ?_
  refine HW_seq rfl ?_
  refine HW_seq rfl ?_
  refine HW_text (.pure 0 (.pure 1 (.pure 2 (.pure 3 (.pure 4 (.pure 5 (.pure 6 .done))))))) (by kernel_rfl) ?_
  refine rw_p rfl rfl (y_move rfl) ?_
  refine rw_p rfl rfl (y_len rfl rfl sl24) ?_
  refine rw_p rfl rfl (y_gt rfl rfl) ?_
  refine rw_p rfl rfl (y_move rfl) ?_
  refine rw_g rfl rfl rfl (fun hc => (y_move rfl)) ?_
  refine rw_g rfl rfl rfl (fun hc => (y_lt (gx hc rfl) rfl)) ?_
  refine rw_p rfl rfl (y_or rfl rfl rfl) ?_
  refine rw_done ?_
  refine gn_sq ?_
  refine HW_cond rfl rfl (fun hc0 => ?_) (fun hc0 => ?_)
  ·
    simp only [Bool.or_eq_true, decide_eq_true_eq] at hc0
    refine HW_seq rfl ?_
    refine HW_text (.pure 0 .done) (by kernel_rfl) ?_
    refine rw_p rfl rfl (y_assign rfl) ?_
    refine rw_done ?_
    refine gn_sq ?_
    refine HW_ret rfl ?_
    refine gr_sq ?_
    refine toR (fin hret rfl (.tmp rfl .nil) .one ?_)
    exact ⟨congrArg Value.bool (decide_eq_false fun h => by omega).symm, hm.to⟩
  ·
    simp only [Bool.or_eq_false_iff, decide_eq_false_iff_not] at hc0
    refine HW_skip rfl ?_
    refine gn_sq ?_
    refine HW_seq rfl ?_
    refine HW_text (.pure 0 .done) (by kernel_rfl) ?_
    refine rw_p rfl rfl (y_assign rfl) ?_
    refine rw_done ?_
    refine gn_sq ?_
    refine HW_seq rfl ?_
    refine HW_seq rfl ?_
    refine HW_text (.pure 0 .done) (by kernel_rfl) ?_
    refine rw_p rfl rfl (y_assign rfl) ?_
    refine rw_done ?_
    refine gn_sq ?_
    refine HW_block rfl ?_
    refine HW_loopK (ι := Nat) rfl (ks := [0, 1]) (.cons rfl (.cons rfl .nil)) (fun k => [(6, .int .i64 k), (5, .int .i64 (Pl.first s (xs.map CmdV.cm) k))]) (fun k w => Mem w0 w No [] ∧ k ≤ xs.length ∧ (0 ≤ Pl.first s (xs.map CmdV.cm) k ∧ Pl.first s (xs.map CmdV.cm) k ≤ 300 * k) ∧ ∀ (j : Nat) c, j < k → xs[j]? = some c → Pl.ccheck c.cm = 0 ∧ c.d.bs.length ≤ 300 ∧ Pl.chCount c.cm s ≤ 300) (fun k => xs.length - k) 0 (⟨hm, Nat.zero_le _, by simp [Pl.first], fun _ _ h => absurd h (Nat.not_lt_zero _)⟩) ⟨rfl, (by simp [Pl.first]; rfl), trivial⟩ (fun k w hM => ?_)
    obtain ⟨hm, hk, hfk, hno⟩ := hM
    refine HW_seq rfl ?_
    refine HW_seq rfl ?_
    refine HW_text (.pure 0 (.pure 1 (.pure 2 (.pure 3 .done)))) (by kernel_rfl) ?_
    refine rw_p rfl rfl (y_move rfl) ?_
    refine rw_p rfl rfl (y_move rfl) ?_
    refine rw_p rfl rfl (y_len rfl rfl sl24) ?_
    refine rw_p rfl rfl (y_lt rfl rfl) ?_
    refine rw_done ?_
    refine gn_sq ?_
    refine HW_cond rfl rfl (fun hc1 => ?_) (fun hc1 => ?_)
    ·
      simp only [decide_eq_true_eq] at hc1
      obtain ⟨c, hi⟩ : ∃ y_, xs[k]? = some y_ := ⟨_, List.getElem?_eq_getElem (by omega)⟩
      obtain ⟨qb, qo, rfl⟩ := hx.atI encC_len (by decide) hi
      have hokc := hok c (List.mem_of_getElem? hi)
      have hb1 := hokc.2.2.2.2.le
      have hb2 := hokc.2.2.2.2.max
      have hcm : (xs.map CmdV.cm)[k]? = some c.cm := by rw [List.getElem?_map, hi]; rfl
      have hfn := Pl.first_next s hcm
      have k5 : c.cm.bs.length = c.d.bs.length := rfl
      refine HW_skip rfl ?_
      refine gn_sq ?_
      refine HW_seq rfl ?_
      refine HW_block rfl ?_
      refine HW_seq rfl ?_
      refine HW_seq rfl ?_
      by_cases hck : Pl.ccheck c.cm = 0
      by_cases hdl : c.d.bs.length ≤ 300
      rotate_left
      rotate_left
      ·
        refine HW_text (.pure 0 (.pure 1 (.pure 2 (.pure 3 (.act 4 (.pure 5 (.pure 6 (.pure 7 (.pure 8 (.pure 9 (.pure 10 (.pure 11 (.pure 12 (.pure 13 (.pure 14 (.pure 15 (.pure 16 (.pure 17 (.pure 18 (.pure 19 (.pure 20 (.act 21 (.pure 22 (.pure 23 .done)))))))))))))))))))))))) (by kernel_rfl) ?_
        refine rw_p rfl rfl (y_move rfl) ?_
        refine rw_p rfl rfl (y_move rfl) ?_
        refine rw_p rfl rfl (y_index rfl rfl sl24 rfl (by omega) (by omega)) ?_
        refine rw_p rfl rfl (y_elA rfl ag60 (hx.ext0 hm.to).nt encC_len hi) ?_
        refine a_call rfl rfl rfl go54 (r4_check c.cm c.d.p c.d.cap _ (by exact ⟨hokc.1, hokc.2.1, hokc.2.2.1, hokc.2.2.2.1⟩) (by omega)) fun v w hR => ?_
        obtain ⟨rfl, hE⟩ := hR
        refine ⟨trivial, ?_⟩
        replace hm := hm.ext hE
        refine rw_p rfl rfl (y_ne rfl rfl) ?_
        refine rw_p rfl rfl (y_as (c := true) (y_move rfl) (by simp [hck])) ?_
        refine rw_gf rfl rfl (by decide) rfl ?_
        refine rw_gf rfl rfl (by decide) rfl ?_
        refine rw_gf rfl rfl (by decide) rfl ?_
        refine rw_gf rfl rfl (by decide) rfl ?_
        refine rw_gf rfl rfl (by decide) rfl ?_
        refine rw_gf rfl rfl (by decide) rfl ?_
        refine rw_gf rfl rfl (by decide) rfl ?_
        refine rw_p rfl rfl (y_pickT rfl rfl) ?_
        refine rw_p rfl rfl (y_move rfl) ?_
        refine rw_gf rfl rfl (by decide) rfl ?_
        refine rw_gf rfl rfl (by decide) rfl ?_
        refine rw_gf rfl rfl (by decide) rfl ?_
        refine rw_gf rfl rfl (by decide) rfl ?_
        refine rw_gf rfl rfl (by decide) rfl ?_
        refine a_gf rfl rfl (by decide) rfl trivial ?_
        refine rw_gf rfl rfl (by decide) rfl ?_
        refine rw_p rfl rfl (y_pickT rfl rfl) ?_
        refine rw_done ?_
        refine gn_sq ?_
        refine HW_condT rfl rfl rfl ?_
        refine HW_seq rfl ?_
        refine HW_text (.pure 0 .done) (by kernel_rfl) ?_
        refine rw_p rfl rfl (y_assign rfl) ?_
        refine rw_done ?_
        refine gn_sq ?_
        refine HW_ret rfl ?_
        refine gr_sq (gr_bl (gr_sq (gr_lp (gr_bl (gr_sq ?_)))))
        refine toR (fin hret rfl (.tmp rfl .nil) .one ?_)
        exact ⟨congrArg Value.bool (decide_eq_false fun h => by
            have h9 := h.2.2.1 c (List.mem_of_getElem? hi)
            first | exact hck h9.1 | exact hdl h9.2.1 | omega).symm, hm.to⟩
      ·
        have hcn := Pl.chCount_nonneg (s := s) hck
        refine HW_text (.pure 0 (.pure 1 (.pure 2 (.pure 3 (.act 4 (.pure 5 (.pure 6 (.pure 7 (.pure 8 (.pure 9 (.pure 10 (.pure 11 (.pure 12 (.pure 13 (.pure 14 (.pure 15 (.pure 16 (.pure 17 (.pure 18 (.pure 19 (.pure 20 (.act 21 (.pure 22 (.pure 23 .done)))))))))))))))))))))))) (by kernel_rfl) ?_
        refine rw_p rfl rfl (y_move rfl) ?_
        refine rw_p rfl rfl (y_move rfl) ?_
        refine rw_p rfl rfl (y_index rfl rfl sl24 rfl (by omega) (by omega)) ?_
        refine rw_p rfl rfl (y_elA rfl ag60 (hx.ext0 hm.to).nt encC_len hi) ?_
        refine a_call rfl rfl rfl go54 (r4_check c.cm c.d.p c.d.cap _ (by exact ⟨hokc.1, hokc.2.1, hokc.2.2.1, hokc.2.2.2.1⟩) (by omega)) fun v w hR => ?_
        obtain ⟨rfl, hE⟩ := hR
        refine ⟨trivial, ?_⟩
        replace hm := hm.ext hE
        refine rw_p rfl rfl (y_ne rfl rfl) ?_
        refine rw_p rfl rfl (y_as (c := false) (y_move rfl) (by simp [hck])) ?_
        refine rw_p rfl rfl (y_move rfl) ?_
        refine rw_p rfl rfl (y_move rfl) ?_
        refine rw_p rfl rfl (y_index rfl rfl sl24 rfl (by omega) (by omega)) ?_
        refine rw_p rfl rfl (y_fieldAddr rfl fo60_4) ?_
        refine rw_p rfl rfl (y_elS rfl sc22 (hx.ext0 hm.to).nt encC_len hi rfl) ?_
        refine rw_p rfl rfl (y_len rfl rfl sl22) ?_
        refine rw_p rfl rfl (y_gt rfl rfl) ?_
        refine rw_p rfl rfl (y_pickF rfl rfl) ?_
        refine rw_p rfl rfl (y_as (c := false) (y_move rfl) (decide_eq_false (by omega))) ?_
        refine rw_p rfl rfl (y_move rfl) ?_
        refine rw_p rfl rfl (y_move rfl) ?_
        refine rw_p rfl rfl (y_index rfl rfl sl24 rfl (by omega) (by omega)) ?_
        refine rw_p rfl rfl (y_elA rfl ag60 (hx.ext0 hm.to).nt encC_len hi) ?_
        refine rw_p rfl rfl (y_move rfl) ?_
        refine a_call rfl rfl rfl go55 (r17_count c.cm c.d.p c.d.cap s _ hck hs) fun v w hR => ?_
        obtain ⟨rfl, hE⟩ := hR
        refine ⟨trivial, ?_⟩
        replace hm := hm.ext hE
        refine rw_p rfl rfl (y_gt rfl rfl) ?_
        refine rw_p rfl rfl (y_pickF rfl rfl) ?_
        refine rw_done ?_
        refine gn_sq ?_
        refine HW_cond rfl rfl (fun hc2 => ?_) (fun hc2 => ?_)
        ·
          simp only [decide_eq_true_eq] at hc2
          refine HW_seq rfl ?_
          refine HW_text (.pure 0 .done) (by kernel_rfl) ?_
          refine rw_p rfl rfl (y_assign rfl) ?_
          refine rw_done ?_
          refine gn_sq ?_
          refine HW_ret rfl ?_
          refine gr_sq (gr_bl (gr_sq (gr_lp (gr_bl (gr_sq ?_)))))
          refine toR (fin hret rfl (.tmp rfl .nil) .one ?_)
          exact ⟨congrArg Value.bool (decide_eq_false fun h => by
              have h9 := h.2.2.1 c (List.mem_of_getElem? hi)
              first | exact hck h9.1 | exact hdl h9.2.1 | omega).symm, hm.to⟩
        ·
          simp only [decide_eq_false_iff_not] at hc2
          refine HW_skip rfl ?_
          refine gn_sq ?_
          refine HW_text (.pure 0 (.pure 1 (.pure 2 (.pure 3 (.pure 4 (.pure 5 (.act 6 (.pure 7 (.pure 8 .done))))))))) (by kernel_rfl) ?_
          refine rw_p rfl rfl (y_move rfl) ?_
          refine rw_p rfl rfl (y_move rfl) ?_
          refine rw_p rfl rfl (y_move rfl) ?_
          refine rw_p rfl rfl (y_index rfl rfl sl24 rfl (by omega) (by omega)) ?_
          refine rw_p rfl rfl (y_elA rfl ag60 (hx.ext0 hm.to).nt encC_len hi) ?_
          refine rw_p rfl rfl (y_move rfl) ?_
          refine a_call rfl rfl rfl go55 (r17_count c.cm c.d.p c.d.cap s _ hck hs) fun v w hR => ?_
          obtain ⟨rfl, hE⟩ := hR
          refine ⟨trivial, ?_⟩
          replace hm := hm.ext hE
          refine rw_p rfl rfl (y_add rfl rfl (i64w (by omega) (by omega))) ?_
          refine rw_p rfl rfl (y_assign rfl) ?_
          refine rw_done ?_
          refine gn_bl ?_
          refine gn_sq ?_
          refine HW_text (.pure 0 (.pure 1 (.pure 2 .done))) (by kernel_rfl) ?_
          refine rw_p rfl rfl (y_move rfl) ?_
          refine rw_p rfl rfl (y_add rfl rfl (i64w (by omega) (by omega))) ?_
          refine rw_p rfl rfl (y_assign rfl) ?_
          refine rw_done ?_
          refine next (k + 1) (by omega) ⟨hm, by omega, by omega, fun j d hj hd => ?_⟩ ⟨nx k, by rw [hfn]; rfl, rfl, rfl, trivial⟩
          rcases Nat.lt_or_ge j k with h | h
          · exact hno j d h hd
          · obtain rfl : j = k := by omega
            rw [hi] at hd; cases hd; exact ⟨hck, by omega, by omega⟩
      ·
        refine HW_text (.pure 0 (.pure 1 (.pure 2 (.pure 3 (.act 4 (.pure 5 (.pure 6 (.pure 7 (.pure 8 (.pure 9 (.pure 10 (.pure 11 (.pure 12 (.pure 13 (.pure 14 (.pure 15 (.pure 16 (.pure 17 (.pure 18 (.pure 19 (.pure 20 (.act 21 (.pure 22 (.pure 23 .done)))))))))))))))))))))))) (by kernel_rfl) ?_
        refine rw_p rfl rfl (y_move rfl) ?_
        refine rw_p rfl rfl (y_move rfl) ?_
        refine rw_p rfl rfl (y_index rfl rfl sl24 rfl (by omega) (by omega)) ?_
        refine rw_p rfl rfl (y_elA rfl ag60 (hx.ext0 hm.to).nt encC_len hi) ?_
        refine a_call rfl rfl rfl go54 (r4_check c.cm c.d.p c.d.cap _ (by exact ⟨hokc.1, hokc.2.1, hokc.2.2.1, hokc.2.2.2.1⟩) (by omega)) fun v w hR => ?_
        obtain ⟨rfl, hE⟩ := hR
        refine ⟨trivial, ?_⟩
        replace hm := hm.ext hE
        refine rw_p rfl rfl (y_ne rfl rfl) ?_
        refine rw_p rfl rfl (y_as (c := false) (y_move rfl) (by simp [hck])) ?_
        refine rw_p rfl rfl (y_move rfl) ?_
        refine rw_p rfl rfl (y_move rfl) ?_
        refine rw_p rfl rfl (y_index rfl rfl sl24 rfl (by omega) (by omega)) ?_
        refine rw_p rfl rfl (y_fieldAddr rfl fo60_4) ?_
        refine rw_p rfl rfl (y_elS rfl sc22 (hx.ext0 hm.to).nt encC_len hi rfl) ?_
        refine rw_p rfl rfl (y_len rfl rfl sl22) ?_
        refine rw_p rfl rfl (y_gt rfl rfl) ?_
        refine rw_p rfl rfl (y_pickF rfl rfl) ?_
        refine rw_p rfl rfl (y_as (c := true) (y_move rfl) (decide_eq_true (by omega))) ?_
        refine rw_gf rfl rfl (by decide) rfl ?_
        refine rw_gf rfl rfl (by decide) rfl ?_
        refine rw_gf rfl rfl (by decide) rfl ?_
        refine rw_gf rfl rfl (by decide) rfl ?_
        refine rw_gf rfl rfl (by decide) rfl ?_
        refine a_gf rfl rfl (by decide) rfl trivial ?_
        refine rw_gf rfl rfl (by decide) rfl ?_
        refine rw_p rfl rfl (y_pickT rfl rfl) ?_
        refine rw_done ?_
        refine gn_sq ?_
        refine HW_condT rfl rfl rfl ?_
        refine HW_seq rfl ?_
        refine HW_text (.pure 0 .done) (by kernel_rfl) ?_
        refine rw_p rfl rfl (y_assign rfl) ?_
        refine rw_done ?_
        refine gn_sq ?_
        refine HW_ret rfl ?_
        refine gr_sq (gr_bl (gr_sq (gr_lp (gr_bl (gr_sq ?_)))))
        refine toR (fin hret rfl (.tmp rfl .nil) .one ?_)
        exact ⟨congrArg Value.bool (decide_eq_false fun h => by
            have h9 := h.2.2.1 c (List.mem_of_getElem? hi)
            first | exact hck h9.1 | exact hdl h9.2.1 | omega).symm, hm.to⟩
    ·
      simp only [decide_eq_false_iff_not] at hc1
      obtain rfl : k = xs.length := by omega
      have hall : ∀ c ∈ xs, Pl.ccheck c.cm = 0 ∧ c.d.bs.length ≤ 300 ∧ Pl.chCount c.cm s ≤ 300 := fun c hc => by (obtain ⟨j, hj⟩ := List.getElem?_of_mem hc; exact hno j c (List.getElem?_eq_some_iff.1 hj).1 hj)
      refine HW_exit rfl ?_
      refine gx_sq (gx_lp ?_)
      refine gx_here ?_
      refine gn_sq ?_
      refine HW_seq rfl ?_
      refine HW_text (.pure 0 (.pure 1 (.pure 2 .done))) (by kernel_rfl) ?_
      refine rw_p rfl rfl (y_move rfl) ?_
      refine rw_p rfl rfl (y_le rfl rfl) ?_
      refine rw_p rfl rfl (y_assign rfl) ?_
      refine rw_done ?_
      refine gn_sq ?_
      refine HW_ret rfl ?_
      refine toR (fin hret rfl (.tmp rfl .nil) .one ?_)
      exact ⟨congrArg Value.bool (decide_eq_decide.2 ⟨fun h => ⟨by omega, by omega, hall, h⟩, fun h => h.2.2.2⟩), hm.to⟩

theorem r24_small (oo nn : Int) (H : Nat → UInt8) (q : Option Addr) (cq : Nat) (cs : List CmdV) (bd : Int) (w0 : World) (h1 : Pl.I64 oo) (h2 : Pl.I64 nn) (hb : Pl.I64 bd) (hq : Rd w0 q (cs.flatMap encC)) (hok : ∀ c ∈ cs, okC w0 c) : C Tryz.prog 15 [.int .i64 bd, .agg ⟨dlV oo nn H q cs.length cq⟩] w0 fun v w' => v = .bool (bif (decide ((cs.length : Int) > 20) || decide (oo > 300) || decide (nn > 300) || !(cs.all (fun c => decide (c.d.bs.length ≤ 300)) && decide (cs.length ≤ 40)) || !Pl.vdB oo nn (cs.map CmdV.cm) || decide (bd > 300)) then false else (Pl.valid 0 nn && (decide (bd < 1) || few18 bd cs))) ∧ Ext No w0 w' := by
  refine C_of Tryz.func15 rfl rfl rfl fun κ hret hnorm => ?_
  have hm := Mem.start w0
  refine HW_seq rfl ?_
  refine HW_text (.act 0 (.pure 1 .done)) (by kernel_rfl) ?_
  refine a_box rfl rfl rfl rfl hm trivial fun m1 w hg_m1 hm hh => ?_
  refine rw_p rfl rfl (y_assign rfl) ?_
  refine rw_done ?_
  refine gn_sq ?_
  refine HW_seq rfl ?_
  refine HW_seq rfl ?_
  refine HW_text (.pure 0 (.pure 1 (.pure 2 (.pure 3 (.pure 4 (.pure 5 (.pure 6 (.pure 7 (.pure 8 (.pure 9 (.pure 10 (.pure 11 (.pure 12 (.pure 13 (.pure 14 (.pure 15 (.act 16 (.pure 17 (.pure 18 (.pure 19 (.pure 20 (.act 21 (.pure 22 (.pure 23 (.pure 24 (.pure 25 (.pure 26 (.pure 27 .done)))))))))))))))))))))))))))) (by kernel_rfl) ?_
  refine rw_p rfl rfl (y_fieldAddr rfl fo26_4) ?_
  refine rw_p rfl rfl (y_load rfl sc24 (hm.nt 0 rfl) rfl) ?_
  refine rw_p rfl rfl (y_len rfl rfl sl24) ?_
  refine rw_p rfl rfl (y_gt rfl rfl) ?_
  refine rw_p rfl rfl (y_move rfl) ?_
  refine rw_g rfl rfl rfl (fun hc => (y_fieldAddr rfl fo26_0)) ?_
  refine rw_g rfl rfl rfl (fun hc => (y_load (gx hc rfl) sc3 (hm.nt 0 rfl) rfl)) ?_
  refine rw_g rfl rfl rfl (fun hc => (y_gt (gx hc rfl) rfl)) ?_
  refine rw_p rfl rfl (y_or rfl rfl rfl) ?_
  refine rw_p rfl rfl (y_move rfl) ?_
  refine rw_g rfl rfl rfl (fun hc => (y_fieldAddr rfl fo26_1)) ?_
  refine rw_g rfl rfl rfl (fun hc => (y_load (gx hc rfl) sc3 (hm.nt 0 rfl) rfl)) ?_
  refine rw_g rfl rfl rfl (fun hc => (y_gt (gx hc rfl) rfl)) ?_
  refine rw_p rfl rfl (y_or rfl rfl rfl) ?_
  refine rw_p rfl rfl (y_move rfl) ?_
  refine rw_g rfl rfl rfl (fun hc => (y_loadA (s := 67) (vs := dlV oo nn H _ cs.length cq) rfl ag26 (hm.nt 0 rfl) rfl)) ?_
  refine a_callG rfl rfl rfl (fun hc => (evs_c (gx hc rfl) evs_n)) go30 (fun hc => (r5_few oo nn H q cq cs _ (hq.ext0 hm.to) (by simp only [Bool.or_eq_false_iff, decide_eq_false_iff_not] at hc; omega))) trivial fun w hE hh => ?_
  replace hm := hm.ext hE
  refine rw_g rfl rfl rfl (fun hc => (y_not (gx hc rfl))) ?_
  refine rw_p rfl rfl (y_or rfl rfl rfl) ?_
  refine rw_p rfl rfl (y_move rfl) ?_
  refine rw_g rfl rfl rfl (fun hc => (y_loadA (s := 67) (vs := dlV oo nn H _ cs.length cq) rfl ag26 (hm.nt 0 rfl) rfl)) ?_
  refine a_callG rfl rfl rfl (fun hc => (evs_c (gx hc rfl) evs_n)) go31 (fun hc => (r5_valid oo nn H q cq cs _ h1 h2 (hq.ext0 hm.to) (by simp only [Bool.or_eq_false_iff, decide_eq_false_iff_not] at hc; omega) (fun c hc => okC.mono (hok c hc) hm.to))) trivial fun w hE hh => ?_
  replace hm := hm.ext hE
  refine rw_g rfl rfl rfl (fun hc => (y_not (gx hc rfl))) ?_
  refine rw_p rfl rfl (y_or rfl rfl rfl) ?_
  refine rw_p rfl rfl (y_move rfl) ?_
  refine rw_g rfl rfl rfl (fun hc => (y_move rfl)) ?_
  refine rw_g rfl rfl rfl (fun hc => (y_gt (gx hc rfl) rfl)) ?_
  refine rw_p rfl rfl (y_or rfl rfl rfl) ?_
  refine rw_done ?_
  refine gn_sq ?_
  refine HW_cond rfl rfl (fun hc0 => ?_) (fun hc0 => ?_)
  ·
    refine HW_seq rfl ?_
    refine HW_text (.pure 0 .done) (by kernel_rfl) ?_
    refine rw_p rfl rfl (y_assign rfl) ?_
    refine rw_done ?_
    refine gn_sq ?_
    refine HW_ret rfl ?_
    refine gr_sq ?_
    refine toR (fin hret rfl (.tmp rfl .nil) .one ?_)
    exact ⟨by rw [show (decide ((cs.length : Int) > 20) || decide (oo > 300) || decide (nn > 300) || !(cs.all (fun c => decide (c.d.bs.length ≤ 300)) && decide (cs.length ≤ 40)) || !Pl.vdB oo nn (cs.map CmdV.cm) || decide (bd > 300)) = true from hc0]; rfl, hm.to⟩
  ·
    have h20 : cs.length ≤ 20 := by
      have h9 := hc0
      simp only [Bool.or_eq_false_iff, decide_eq_false_iff_not] at h9
      omega
    refine HW_skip rfl ?_
    refine gn_sq ?_
    refine HW_seq rfl ?_
    refine HW_text (.pure 0 (.pure 1 (.pure 2 (.act 3 (.pure 4 (.pure 5 (.pure 6 (.pure 7 (.pure 8 (.pure 9 (.pure 10 (.act 11 (.pure 12 (.pure 13 (.pure 14 .done))))))))))))))) (by kernel_rfl) ?_
    refine rw_p rfl rfl (y_fieldAddr rfl fo26_1) ?_
    refine rw_p rfl rfl (y_load rfl sc3 (hm.nt 0 rfl) rfl) ?_
    refine rw_p rfl rfl (y_build (cs := [_, _]) z32 ft32 rfl rfl rfl rfl rfl) ?_
    refine a_call rfl rfl rfl go32 (r1_valid 0 nn _ (by simp only [Pl.I64]; omega) h2) fun v w hR => ?_
    obtain ⟨rfl, hE⟩ := hR
    refine ⟨trivial, ?_⟩
    replace hm := hm.ext hE
    refine rw_p rfl rfl (y_move rfl) ?_
    refine rw_g rfl rfl rfl (fun hc => (y_move rfl)) ?_
    refine rw_g rfl rfl rfl (fun hc => (y_lt (gx hc rfl) rfl)) ?_
    refine rw_g rfl rfl rfl (fun hc => (y_move (gx hc rfl))) ?_
    refine rw_gg rfl rfl rfl (fun hc => (y_move rfl)) ?_
    refine rw_gg rfl rfl rfl (fun hc => (y_fieldAddr rfl fo26_4)) ?_
    refine rw_gg rfl rfl rfl (fun hc => (y_load (gx hc rfl) sc24 (hm.nt 0 rfl) rfl)) ?_
    refine a_callGG rfl rfl rfl (fun hc => (evs_c (gx hc rfl) (evs_c (gx hc rfl) evs_n))) go33 (fun hc => (r18_few bd q cq cs _ (hq.ext0 hm.to) (fun c hc => okC.mono (hok c hc) hm.to) (by omega) hb)) trivial fun w hE hh => ?_
    replace hm := hm.ext hE
    refine rw_g rfl rfl rfl (fun hc => (y_or (gx hc rfl) rfl (gvn hc rfl))) ?_
    refine rw_p rfl rfl (y_and rfl rfl rfl) ?_
    refine rw_p rfl rfl (y_assign rfl) ?_
    refine rw_done ?_
    refine gn_sq ?_
    refine HW_ret rfl ?_
    refine toR (fin hret rfl (.tmp rfl .nil) .one ?_)
    exact ⟨by rw [show (decide ((cs.length : Int) > 20) || decide (oo > 300) || decide (nn > 300) || !(cs.all (fun c => decide (c.d.bs.length ≤ 300)) && decide (cs.length ≤ 40)) || !Pl.vdB oo nn (cs.map CmdV.cm) || decide (bd > 300)) = false from hc0]; rfl, hm.to⟩

end Go.Proofs.YtaehgpeenaomcaaGreat
