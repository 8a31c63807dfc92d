/- Contracts of functions of the program: what each returns. Conditions: the hypotheses of each theorem. -/
import Derived.Test.YthokcfkcamcapaaRfC
set_option linter.unusedVariables false
set_option linter.unusedSimpArgs false
namespace Go.Proofs.Ythokcfkcamcapaa
open Go Go.Cx

theorem fo48_10 : fldO Try.prog 48 10 = some 10 := by kernel_rfl
theorem fo48_11 : fldO Try.prog 48 11 = some 11 := by kernel_rfl
theorem fo48_7 : fldO Try.prog 48 7 = some 7 := by kernel_rfl
theorem ft55 : fldT Try.prog 55 = some [(0, 1), (1, 1)] := by kernel_rfl
theorem go44 : isGo Try.prog 44 = true := by kernel_rfl
theorem z55 : zer Try.prog 55 = some [.int .i64 0, .slice none 0 0] := by kernel_rfl

set_option maxHeartbeats 1600000 in
theorem rf_putd (D : Pl.Dv) (m : Nat) (pb : Option Addr) (cb : Nat) (pc : Option Addr) (cc : Nat) (cs : List PdV) (B : List (Nat × Blk)) (w0 : World) (hZ : OwnZ w0 ((m, .row 48 (rfV D pb cb pc cc)) :: B)) (hb : Held B 5 ⟨pb, cb, D.dk⟩) (hp : HeldP B 55 5 pc cc cs) (hwr : cs.map PdV.wr = D.ca) (hok : Pl.okDv D) (q : Option Addr) (cq : Nat) (bs : List UInt8) (i : Int) (hq : Rd w0 q (bs.flatMap encB)) (hqX : bs.flatMap encB ≠ [] → ∀ a, q = some a → ¬ (Mn (reals ((m, .row 48 (rfV D pb cb pc cc)) :: B))) a.block) (hle : bs.length ≤ cq) (hcl : D.ca.length ≤ 1000000000) : C Try.prog 28 [.pointer (some ⟨m, 0, none⟩), .int .i64 i, .slice q bs.length cq] w0 fun v w' => v = .int .i64 (Pl.wCode D i bs) ∧ ∃ Z', RefZ 48 55 5 (Pl.wDv D i bs) m Z' ∧ Mem w0 w' (Mn (reals ((m, .row 48 (rfV D pb cb pc cc)) :: B))) Z' := by
  have hP : w0.heap[m]? = some (Blk.toObj (.row 48 (rfV D pb cb pc cc))) := hZ.get (k := 0) rfl
  have o1 := hok.sz
  have o2 := hok.len
  have o3 := hok.cnt
  have o4 := hok.max
  have o5 : D.cnt ≤ D.cnt * D.sz := Nat.le_mul_of_pos_right _ o1
  have o6 := hb.le
  have o8 := hp.le
  simp only at o6
  have hCl := wr_len hwr
  have hBR := hb.rdO hZ.tail
  have hCR := hp.rdO hZ (fun _ he => List.mem_cons_of_mem _ he)
  have o9 : D.sz ≤ D.cnt * D.sz := Nat.le_mul_of_pos_left _ o3
  have ow1 := hok.wr
  have hwc : Pl.wCode D i bs = if Pl.codeAt D i ≠ 0 then Pl.codeAt D i else if bs.length ≠ D.sz then 2 else if D.wr = 0 then 18 else 0 := rfl
  have hcd : Pl.codeAt D i = if D.dn = true then 18 else if i < 0 ∨ (D.cnt : Int) ≤ i then 2 else 0 := rfl
  refine C_of Try.func28 rfl rfl rfl fun κ hret hnorm => ?_
  have hm := hZ.start
  refine HW_seq rfl ?_
  refine HW_text (.pure 0 .done) (by kernel_rfl) ?_
  refine rw_p rfl rfl (y_assign rfl) ?_
  refine rw_done ?_
  refine gn_sq ?_
  refine HW_seq rfl ?_
  refine HW_seq rfl ?_
  refine HW_text (.pure 0 (.pure 1 (.pure 2 (.pure 3 .done)))) (by kernel_rfl) ?_
  refine rw_p rfl rfl (y_move rfl) ?_
  refine rw_p rfl rfl (y_nil rfl) ?_
  refine rw_p rfl rfl (y_fieldAddr rfl fo48_6) ?_
  refine rw_p rfl rfl (y_load rfl sc4 (hm.nt 0 rfl) rfl) ?_
  refine rw_done ?_
  refine gn_sq ?_
  refine HW_cond rfl rfl (fun hc0 => ?_) (fun hc0 => ?_)
  ·
    have hc9 : Pl.codeAt D i = 18 := by rw [hcd, if_pos hc0]
    refine HW_seq rfl ?_
    refine HW_text (.pure 0 .done) (by kernel_rfl) ?_
    refine rw_p rfl rfl (y_assign rfl) ?_
    refine rw_done ?_
    refine gn_sq ?_
    refine HW_ret rfl ?_
    refine gr_sq ?_
    refine toR (fin hret rfl (.tmp rfl .nil) .one ?_)
    exact ⟨by rw [hwc, hc9]; rfl, _, by rw [Pl.wDv_stop (.inl (by rw [hc9]; decide))]; exact ref_mk hb hp hwr hok, (hm.pickT [0] 1 rfl)⟩
  ·
    refine HW_skip rfl ?_
    refine gn_sq ?_
    refine HW_seq rfl ?_
    refine HW_seq rfl ?_
    refine HW_text (.pure 0 (.pure 1 (.pure 2 (.pure 3 (.pure 4 (.pure 5 (.pure 6 (.pure 7 (.pure 8 (.pure 9 (.pure 10 (.pure 11 (.pure 12 (.pure 13 (.pure 14 (.pure 15 (.pure 16 (.pure 17 (.pure 18 .done))))))))))))))))))) (by kernel_rfl) ?_
    refine rw_p rfl rfl (y_move rfl) ?_
    refine rw_p rfl rfl (y_lt rfl rfl) ?_
    refine rw_p rfl rfl (y_move rfl) ?_
    refine rw_g rfl rfl rfl (fun hc => (y_move rfl)) ?_
    refine rw_g rfl rfl rfl (fun hc => (y_move rfl)) ?_
    refine rw_g rfl rfl rfl (fun hc => (y_nil (gx hc rfl))) ?_
    refine rw_g rfl rfl rfl (fun hc => (y_fieldAddr (gx hc rfl) fo48_1)) ?_
    refine rw_g rfl rfl rfl (fun hc => (y_load (gx hc rfl) sc3 (hm.nt 0 rfl) rfl)) ?_
    refine rw_g rfl rfl rfl (fun hc => (y_ge (gx hc rfl) (gx hc rfl))) ?_
    refine rw_p rfl rfl (y_or rfl rfl rfl) ?_
    refine rw_p rfl rfl (y_move rfl) ?_
    refine rw_g rfl rfl rfl (fun hc => (y_move rfl)) ?_
    refine rw_g rfl rfl rfl (fun hc => (y_len (gx hc rfl) rfl sl24)) ?_
    refine rw_g rfl rfl rfl (fun hc => (y_move rfl)) ?_
    refine rw_g rfl rfl rfl (fun hc => (y_nil (gx hc rfl))) ?_
    refine rw_g rfl rfl rfl (fun hc => (y_fieldAddr (gx hc rfl) fo48_0)) ?_
    refine rw_g rfl rfl rfl (fun hc => (y_load (gx hc rfl) sc3 (hm.nt 0 rfl) rfl)) ?_
    refine rw_g rfl rfl rfl (fun hc => (y_ne (gx hc rfl) (gx hc rfl))) ?_
    refine rw_p rfl rfl (y_or rfl rfl rfl) ?_
    refine rw_done ?_
    refine gn_sq ?_
    refine HW_cond rfl rfl (fun hc1 => ?_) (fun hc1 => ?_)
    ·
      simp only [Bool.or_eq_true, decide_eq_true_eq] at hc1
      have hst9 : Pl.codeAt D i ≠ 0 ∨ bs.length ≠ D.sz := by (rw [hcd, if_neg (by simp [hc0])]; by_cases h9 : i < 0 ∨ (D.cnt : Int) ≤ i; · rw [if_pos h9]; exact .inl (by decide)); exact .inr (by omega)
      have hcw9 : Pl.wCode D i bs = 2 := by (rw [hwc, hcd, if_neg (show ¬ D.dn = true by simp [hc0])]; by_cases h9 : i < 0 ∨ (D.cnt : Int) ≤ i; · rw [if_pos h9, if_pos (by decide)]); rw [if_neg h9, if_neg (by simp), if_pos (by omega)]
      refine HW_seq rfl ?_
      refine HW_text (.pure 0 .done) (by kernel_rfl) ?_
      refine rw_p rfl rfl (y_assign rfl) ?_
      refine rw_done ?_
      refine gn_sq ?_
      refine HW_ret rfl ?_
      refine gr_sq ?_
      refine toR (fin hret rfl (.tmp rfl .nil) .one ?_)
      exact ⟨by rw [hcw9], _, by rw [Pl.wDv_stop hst9]; exact ref_mk hb hp hwr hok, (hm.pickT [0] 1 rfl)⟩
    ·
      simp only [Bool.or_eq_false_iff, decide_eq_false_iff_not, Decidable.not_not] at hc1
      obtain ⟨⟨hi0, hi1⟩, hbl⟩ := hc1
      have hbl : bs.length = D.sz := by omega
      have hc9 : Pl.codeAt D i = 0 := by rw [hcd, if_neg (by simp [hc0]), if_neg (by omega)]
      have hin : ((i.toNat : Nat) : Int) = i := by omega
      refine HW_skip rfl ?_
      refine gn_sq ?_
      refine HW_seq rfl ?_
      refine HW_text (.pure 0 (.act 1 (.pure 2 (.pure 3 (.pure 4 (.pure 5 (.act 6 (.pure 7 (.act 8 (.pure 9 (.act 10 (.pure 11 (.act 12 (.act 13 (.pure 14 (.pure 15 (.act 16 .done))))))))))))))))) (by kernel_rfl) ?_
      refine rw_p rfl rfl (y_move rfl) ?_
      refine a_buildSlice (l := []) rfl rfl sl46 z55 rfl rfl rfl rfl rfl rfl rfl hm trivial fun m1 w hg_m1 hm hh => ?_
      refine rw_p rfl rfl (y_move rfl) ?_
      refine rw_p rfl rfl (y_nil rfl) ?_
      refine rw_p rfl rfl (y_fieldAddr rfl fo48_3) ?_
      refine rw_p rfl rfl (y_load rfl sc46 (hm.nt 1 rfl) rfl) ?_
      refine a_append rfl rfl rfl rfl rfl rfl sl46 sl46 z55 rfl (oneP cs) (hp.rd hm (fun _ he => List.mem_cons_of_mem _ (List.mem_cons_of_mem _ he))) (by rw [lenP, hCl]) (Acc.row rfl) hm 0 rfl (by omega) (by omega) fun p_c cap_c g_c b_c w ha_c hm => ?_
      replace ha_c := ha_c.to (show _ = cs.flatMap encP from List.nil_append _)
      refine rw_p rfl rfl (y_move rfl) ?_
      refine a_buildSlice (l := []) rfl rfl sl24 z5 rfl rfl rfl rfl rfl rfl rfl hm trivial fun m2 w hg_m2 hm hh => ?_
      refine rw_p rfl rfl (y_move rfl) ?_
      refine a_append rfl rfl rfl rfl rfl rfl sl24 sl24 z5 rfl (oneB bs) (hq.extN hm.to hqX) (lenB bs) (Acc.row rfl) hm 0 rfl (by omega) (by omega) fun p_d cap_d g_d b_d w ha_d hm => ?_
      replace ha_d := ha_d.to (show _ = bs.flatMap encB from List.nil_append _)
      refine rw_p rfl rfl (y_build (cs := [_, _]) z55 ft55 rfl rfl rfl rfl rfl) ?_
      refine a_buildSlice (l := [_, _]) rfl rfl sl46 z55 rfl rfl rfl rfl rfl rfl rfl hm trivial fun m3 w hg_m3 hm hh => ?_
      refine a_append rfl rfl rfl rfl rfl rfl sl46 sl46 z55 rfl rfl (Rd.row0 (hm.get (k := 0) rfl)) rfl ha_c hm 2 rfl (by omega) (by omega) fun p_c cap_c g_c b_c w ha_c hm => ?_
      refine rw_p rfl rfl (y_nil rfl) ?_
      refine rw_p rfl rfl (y_fieldAddr rfl fo48_3) ?_
      refine a_store rfl rfl rfl rfl sz46 rfl hm 3 rfl rfl fun w hm => ?_
      have hp9 := hp.add ha_c (by omega) hin ha_d (by omega)
      have hrow9 : ∀ n : Int, rfV { Pl.wAdd D i bs with wr := n } pb cb p_c cap_c = [.int .i64 (D.sz : Int), .int .i64 (D.cnt : Int), .slice pb D.dk.length cb, .slice p_c (0 + D.ca.length + 1) cap_c, .int .i64 n, .int .u64 D.kp, .bool D.dn, .int .i64 (Pl.inc D.sW), .int .i64 D.sF, .int .i64 D.sC, .int .i64 (max D.sH (i + 1)), .int .i64 (max D.sM ((0 + D.ca.length + 1 : Nat) : Int))] := fun n => by unfold rfV Pl.wAdd; simp only [List.length_append, List.length_singleton, Nat.zero_add]
      have hw9 : _ = (Pl.wAdd D i bs).ca := wr_add hwr i.toNat ⟨p_d, cap_d, bs⟩
      have hok9 := Pl.ok_add hok hc9 hbl hcl
      refine rw_done ?_
      refine gn_sq ?_
      refine HW_seq rfl ?_
      refine HW_text (.pure 0 (.pure 1 (.pure 2 (.pure 3 (.pure 4 (.pure 5 (.pure 6 (.act 7 .done)))))))) (by kernel_rfl) ?_
      refine rw_p rfl rfl (y_move rfl) ?_
      refine rw_p rfl rfl (y_nil rfl) ?_
      refine rw_p rfl rfl (y_fieldAddr rfl fo48_7) ?_
      refine rw_p rfl rfl (y_load rfl sc3 (hm.nt 3 rfl) rfl) ?_
      refine rw_p rfl rfl (y_add rfl rfl rfl) ?_
      refine rw_p rfl rfl (y_nil rfl) ?_
      refine rw_p rfl rfl (y_fieldAddr rfl fo48_7) ?_
      refine a_store rfl rfl rfl rfl sz3 rfl hm 3 rfl rfl fun w hm => ?_
      refine rw_done ?_
      refine gn_sq ?_
      refine HW_seq rfl ?_
      refine HW_text (.pure 0 (.pure 1 (.pure 2 (.pure 3 (.pure 4 (.pure 5 (.pure 6 (.pure 7 (.pure 8 (.pure 9 (.act 10 .done))))))))))) (by kernel_rfl) ?_
      refine rw_p rfl rfl (y_move rfl) ?_
      refine rw_p rfl rfl (y_move rfl) ?_
      refine rw_p rfl rfl (y_nil rfl) ?_
      refine rw_p rfl rfl (y_fieldAddr rfl fo48_10) ?_
      refine rw_p rfl rfl (y_load rfl sc3 (hm.nt 3 rfl) rfl) ?_
      refine rw_p rfl rfl (y_move rfl) ?_
      refine rw_p rfl rfl (y_add rfl rfl (i64w (by omega) (by omega))) ?_
      refine rw_p rfl rfl (y_max rfl rfl) ?_
      refine rw_p rfl rfl (y_nil rfl) ?_
      refine rw_p rfl rfl (y_fieldAddr rfl fo48_10) ?_
      refine a_store rfl rfl rfl rfl sz3 rfl hm 3 rfl rfl fun w hm => ?_
      refine rw_done ?_
      refine gn_sq ?_
      refine HW_seq rfl ?_
      refine HW_draw (.pure 0 (.pure 1 (.pure 2 (.pure 3 (.pure 4 (.pure 5 (.pure 6 (.pure 7 (.pure 8 (.pure 9 (.cut (.pure 10 (.pure 11 (.pure 12 (.act 13 .done))))))))))))))) No mix (by kernel_rfl) hm fun w hw hm0 hh => ?_
      have hm := hm0
      refine rw_p rfl rfl (y_move rfl) ?_
      refine rw_p rfl rfl (y_move rfl) ?_
      refine rw_p rfl rfl (y_nil rfl) ?_
      refine rw_p rfl rfl (y_fieldAddr rfl fo48_11) ?_
      refine rw_p rfl rfl (y_load rfl sc3 (hm0.nd 3 rfl id) rfl) ?_
      refine rw_p rfl rfl (y_move rfl) ?_
      refine rw_p rfl rfl (y_nil rfl) ?_
      refine rw_p rfl rfl (y_fieldAddr rfl fo48_3) ?_
      refine rw_p rfl rfl (y_load rfl sc46 (hm0.nd 3 rfl id) rfl) ?_
      refine rw_p rfl rfl (y_len rfl rfl sl46) ?_
      refine a_cut ?_
      refine rw_p rfl rfl (y_max rfl rfl) ?_
      refine rw_p rfl rfl (y_nil rfl) ?_
      refine rw_p rfl rfl (y_fieldAddr rfl fo48_11) ?_
      refine a_store rfl rfl rfl rfl sz3 rfl hm 3 rfl rfl fun w hm => ?_
      refine rw_done ?_
      refine gn_sq ?_
      refine HW_seq rfl ?_
      refine HW_seq rfl ?_
      refine HW_text (.pure 0 (.pure 1 (.pure 2 (.pure 3 (.pure 4 .done))))) (by kernel_rfl) ?_
      refine rw_p rfl rfl (y_move rfl) ?_
      refine rw_p rfl rfl (y_nil rfl) ?_
      refine rw_p rfl rfl (y_fieldAddr rfl fo48_4) ?_
      refine rw_p rfl rfl (y_load rfl sc3 (hm.nt 3 rfl) rfl) ?_
      refine rw_p rfl rfl (y_eq rfl rfl) ?_
      refine rw_done ?_
      refine gn_sq ?_
      refine HW_cond rfl rfl (fun hc2 => ?_) (fun hc2 => ?_)
      ·
        have hw0 : D.wr = 0 := by simpa using hc2
        have hm9 : Mem w0 w (Mn (reals ((m, .row 48 (rfV D pb cb pc cc)) :: B))) ((m, .row 48 (rfV { Pl.wAdd D i bs with wr := D.wr } pb cb p_c cap_c)) :: (g_c, b_c) :: (g_d, b_d) :: B) := by rw [hrow9]; exact (hm.pickT [3, 2, 1] 4 rfl)
        refine HW_seq rfl ?_
        refine HW_text (.pure 0 (.act 1 .done)) (by kernel_rfl) ?_
        refine rw_p rfl rfl (y_move rfl) ?_
        refine a_call rfl rfl rfl go44 (rf_crash (Pl.wAdd D i bs) m pb cb p_c cap_c _ _ _ hm9.ownZ (hb.mono (fun _ he => List.mem_cons_of_mem _ (List.mem_cons_of_mem _ he))) hp9 hw9 hok9 (by show (D.ca ++ [(i.toNat, bs)]).length ≤ _; rw [List.length_append, List.length_singleton]; omega)) fun v w hR => ?_
        obtain ⟨rfl, Z9, hz9, hmc⟩ := hR
        refine ⟨trivial, ?_⟩
        replace hm := Mem.callZL (A := []) hm9 hmc
        refine rw_done ?_
        refine gn_sq ?_
        refine HW_seq rfl ?_
        refine HW_text (.pure 0 .done) (by kernel_rfl) ?_
        refine rw_p rfl rfl (y_assign rfl) ?_
        refine rw_done ?_
        refine gn_sq ?_
        refine HW_ret rfl ?_
        refine gr_sq ?_
        refine toR (fin hret rfl (.tmp rfl .nil) .one ?_)
        exact ⟨by rw [Pl.wCode_cr hc9 hbl, if_pos hw0], Z9, by rw [Pl.wDv_cr hc9 hbl hw0]; exact hz9, hm⟩
      ·
        have hw0 : ¬ D.wr = 0 := by simpa using hc2
        refine HW_skip rfl ?_
        refine gn_sq ?_
        refine HW_seq rfl ?_
        refine HW_seq rfl ?_
        refine HW_text (.pure 0 (.pure 1 (.pure 2 (.pure 3 (.pure 4 .done))))) (by kernel_rfl) ?_
        refine rw_p rfl rfl (y_move rfl) ?_
        refine rw_p rfl rfl (y_nil rfl) ?_
        refine rw_p rfl rfl (y_fieldAddr rfl fo48_4) ?_
        refine rw_p rfl rfl (y_load rfl sc3 (hm.nt 3 rfl) rfl) ?_
        refine rw_p rfl rfl (y_gt rfl rfl) ?_
        refine rw_done ?_
        refine gn_sq ?_
        refine HW_cond rfl rfl (fun hc3 => ?_) (fun hc3 => ?_)
        ·
          have hw1 : 0 < D.wr := by simpa using hc3
          refine HW_text (.pure 0 (.pure 1 (.pure 2 (.pure 3 (.pure 4 (.pure 5 (.pure 6 (.act 7 .done)))))))) (by kernel_rfl) ?_
          refine rw_p rfl rfl (y_move rfl) ?_
          refine rw_p rfl rfl (y_nil rfl) ?_
          refine rw_p rfl rfl (y_fieldAddr rfl fo48_4) ?_
          refine rw_p rfl rfl (y_load rfl sc3 (hm.nt 3 rfl) rfl) ?_
          refine rw_p rfl rfl (y_sub rfl rfl (decI (by omega) (by omega))) ?_
          refine rw_p rfl rfl (y_nil rfl) ?_
          refine rw_p rfl rfl (y_fieldAddr rfl fo48_4) ?_
          refine a_store rfl rfl rfl rfl sz3 rfl hm 3 rfl rfl fun w hm => ?_
          refine rw_done ?_
          refine gn_sq ?_
          refine HW_seq rfl ?_
          refine HW_text (.pure 0 .done) (by kernel_rfl) ?_
          refine rw_p rfl rfl (y_assign rfl) ?_
          refine rw_done ?_
          refine gn_sq ?_
          refine HW_ret rfl ?_
          refine toR (fin hret rfl (.tmp rfl .nil) .one ?_)
          first | exact ⟨by rw [Pl.wCode_cr hc9 hbl, if_neg hw0], _, by rw [Pl.wDv_on hc9 hbl hw1]; exact ref_mk (D := { Pl.wAdd D i bs with wr := (D.wr - 1) }) (hb.mono (fun _ he => List.mem_cons_of_mem _ (List.mem_cons_of_mem _ he))) hp9 hw9 (Pl.ok_wr hok9 (by omega)), by show Mem _ _ _ ((m, .row _ (rfV { Pl.wAdd D i bs with wr := (D.wr - 1) } pb cb p_c cap_c)) :: _); rw [hrow9]; exact (hm.pickT [3, 2, 1] 4 rfl)⟩ | exact ⟨by rw [Pl.wCode_cr hc9 hbl, if_neg hw0], _, by rw [Pl.wDv_off hc9 hbl (by omega)]; exact ref_mk (D := Pl.wAdd D i bs) (hb.mono (fun _ he => List.mem_cons_of_mem _ (List.mem_cons_of_mem _ he))) hp9 hw9 hok9, by show Mem _ _ _ ((m, .row _ (rfV { Pl.wAdd D i bs with wr := D.wr } pb cb p_c cap_c)) :: _); rw [hrow9]; exact (hm.pickT [3, 2, 1] 4 rfl)⟩
        ·
          have hw1 : ¬ 0 < D.wr := by simpa using hc3
          refine HW_skip rfl ?_
          refine gn_sq ?_
          refine HW_seq rfl ?_
          refine HW_text (.pure 0 .done) (by kernel_rfl) ?_
          refine rw_p rfl rfl (y_assign rfl) ?_
          refine rw_done ?_
          refine gn_sq ?_
          refine HW_ret rfl ?_
          refine toR (fin hret rfl (.tmp rfl .nil) .one ?_)
          first | exact ⟨by rw [Pl.wCode_cr hc9 hbl, if_neg hw0], _, by rw [Pl.wDv_on hc9 hbl hw1]; exact ref_mk (D := { Pl.wAdd D i bs with wr := (D.wr - 1) }) (hb.mono (fun _ he => List.mem_cons_of_mem _ (List.mem_cons_of_mem _ he))) hp9 hw9 (Pl.ok_wr hok9 (by omega)), by show Mem _ _ _ ((m, .row _ (rfV { Pl.wAdd D i bs with wr := (D.wr - 1) } pb cb p_c cap_c)) :: _); rw [hrow9]; exact (hm.pickT [3, 2, 1] 4 rfl)⟩ | exact ⟨by rw [Pl.wCode_cr hc9 hbl, if_neg hw0], _, by rw [Pl.wDv_off hc9 hbl (by omega)]; exact ref_mk (D := Pl.wAdd D i bs) (hb.mono (fun _ he => List.mem_cons_of_mem _ (List.mem_cons_of_mem _ he))) hp9 hw9 hok9, by show Mem _ _ _ ((m, .row _ (rfV { Pl.wAdd D i bs with wr := D.wr } pb cb p_c cap_c)) :: _); rw [hrow9]; exact (hm.pickT [3, 2, 1] 4 rfl)⟩

end Go.Proofs.Ythokcfkcamcapaa
