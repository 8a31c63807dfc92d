/- Contracts of functions of the program: what each returns. Conditions: the hypotheses of each theorem. -/
import Derived.Test.YthailbggeafckaaJnG
set_option linter.unusedVariables false
set_option linter.unusedSimpArgs false
namespace Go.Proofs.Ythailbggeafckaa
open Go Go.Cx

theorem ag29 : aggS Try.prog 29 = some 6 := by kernel_rfl
theorem fl47 : flat Try.prog 47 [.num .i64, .num .i64, .num .i64, .num .i64, .num .i64] = true := by kernel_rfl
theorem fo29_3 : fldO Try.prog 29 3 = some 3 := by kernel_rfl
theorem fo29_4 : fldO Try.prog 29 4 = some 4 := by kernel_rfl
theorem fo29_5 : fldO Try.prog 29 5 = some 5 := by kernel_rfl
theorem fo31_0 : fldO Try.prog 31 0 = some 0 := by kernel_rfl
theorem fo31_1 : fldO Try.prog 31 1 = some 1 := by kernel_rfl
theorem fo31_2 : fldO Try.prog 31 2 = some 2 := by kernel_rfl
theorem go11 : isGo Try.prog 11 = true := by kernel_rfl
theorem go12 : isGo Try.prog 12 = true := by kernel_rfl
theorem go16 : isGo Try.prog 16 = true := by kernel_rfl
theorem pb33 : ptrB Try.prog 33 = true := by kernel_rfl

set_option maxHeartbeats 3200000 in
theorem law_nil (u1 u2 : Int) (pb : Option Addr) (cb : Nat) (bs : List UInt8) (f b k : Int) (cu of : Int) (q : Option Addr) (cq : Nat) (ds : List UInt8) (w0 : World) (hbk : SB.ok w0 ⟨pb, cb, bs⟩) (hu1 : Pl.I64 u1) (hu2 : Pl.I64 u2) (hf : Pl.I64 f) (hb : Pl.I64 b) (hk : 0 ≤ k ∧ k ≤ 18446744073709551615) : C Try.prog 4 [.agg ⟨[.int .i64 u1, .int .i64 u2, .slice pb bs.length cb, .int .i64 f, .int .i64 b, .int .u64 k]⟩, .agg ⟨[.int .i64 cu, .int .i64 of, .slice q ds.length cq]⟩] w0 fun v w' => v = .bool true ∧ Ext No w0 w' := by
  simp only [Pl.I64] at hu1 hu2
  have hbl := hbk.le
  have hbm := hbk.max
  simp only at hbl hbm
  refine C_of Try.func4 rfl rfl rfl fun κ hret hnorm => ?_
  have hm := Mem.start w0
  refine HW_seq rfl ?_
  refine HW_text (.act 0 (.act 1 (.pure 2 .done))) (by kernel_rfl) ?_
  refine a_box rfl rfl rfl rfl hm trivial fun m1 w hg_m1 hm hh => ?_
  refine a_box rfl rfl rfl rfl hm trivial fun m2 w hg_m2 hm hh => ?_
  refine rw_p rfl rfl (y_assign rfl) ?_
  refine rw_done ?_
  refine gn_sq ?_
  refine HW_seq rfl ?_
  by_cases hmk : Pl.right u1 u2 bs.length = true ∧ u1 * u2 ≤ 2000
  ·
    obtain ⟨hrt, h2k⟩ := hmk
    obtain ⟨h1, h2, h3, h4⟩ := Pl.right_of hrt
    obtain ⟨a, rfl⟩ : ∃ a : Nat, u1 = a := ⟨u1.toNat, by omega⟩
    obtain ⟨c, rfl⟩ : ∃ c : Nat, u2 = c := ⟨u2.toNat, by omega⟩
    have hac : (a : Int) * (c : Int) = ((c * a : Nat) : Int) := by rw [Nat.mul_comm]; norm_cast
    rw [hac] at h2k h3 h4
    have hca : 1 ≤ c * a := Nat.mul_pos (by omega) (by omega)
    have ha9 : a ≤ c * a := Nat.le_mul_of_pos_left _ (by omega)
    have hc9 : c ≤ c * a := Nat.le_mul_of_pos_right _ (by omega)
    clear h1 h2
    refine HW_text (.pure 0 (.act 1 (.pure 2 (.pure 3 (.pure 4 (.pure 5 (.pure 6 .done))))))) (by kernel_rfl) ?_
    refine rw_p rfl rfl (y_loadA (s := 6) (vs := [_, _, _, _, _, _]) rfl ag29 (hm.nt 1 rfl) rfl) ?_
    refine a_call rfl rfl rfl go11 (dv_ok a c pb cb bs f b k _ (hbk.ext hm.to) hrt (by omega)) fun v w hR => ?_
    obtain ⟨m, mr, Zw, Zr, rfl, hz, hy, hmc⟩ := hR
    refine ⟨trivial, ?_⟩
    replace hm := hm.callTZ hmc
    refine rw_p rfl rfl (y_move rfl) ?_
    refine rw_p rfl rfl (y_extract rfl rfl) ?_
    refine rw_p rfl rfl (y_extract rfl rfl) ?_
    refine rw_p rfl rfl (y_assign rfl) ?_
    refine rw_p rfl rfl (y_assign rfl) ?_
    refine rw_done ?_
    refine gn_sq ?_
    refine HW_seq rfl ?_
    refine HW_seq rfl ?_
    by_cases h200 : (200 : Int) < ds.length
    ·
      refine HW_text (.pure 0 (.pure 1 (.pure 2 (.pure 3 (.pure 4 (.pure 5 (.pure 6 (.pure 7 (.pure 8 (.pure 9 (.pure 10 (.pure 11 (.pure 12 (.pure 13 (.act 14 (.pure 15 (.pure 16 .done))))))))))))))))) (by kernel_rfl) ?_
      refine rw_p rfl rfl (y_move rfl) ?_
      refine rw_p rfl rfl (y_pnil rfl rfl pb33) ?_
      refine rw_p rfl rfl (y_move rfl) ?_
      refine rw_p rfl rfl (y_fieldAddr rfl fo31_2) ?_
      refine rw_p rfl rfl (y_load rfl sc26 (hm.nt 0 rfl) rfl) ?_
      refine rw_p rfl rfl (y_len rfl rfl sl26) ?_
      refine rw_p rfl rfl (y_as (c := true) (y_gt rfl rfl) (decide_eq_true h200)) ?_
      refine rw_p rfl rfl (y_pickF rfl rfl) ?_
      refine rw_p rfl rfl (y_move rfl) ?_
      refine rw_gf rfl rfl (by decide) rfl ?_
      refine rw_gf rfl rfl (by decide) rfl ?_
      refine rw_gf rfl rfl (by decide) rfl ?_
      refine rw_gf rfl rfl (by decide) rfl ?_
      refine rw_gf rfl rfl (by decide) rfl ?_
      refine a_gf rfl rfl (by decide) rfl trivial ?_
      refine rw_gf rfl rfl (by decide) rfl ?_
      refine rw_p rfl rfl (y_pickT rfl rfl) ?_
      refine rw_done ?_
      refine gn_sq ?_
      refine HW_condT rfl rfl rfl ?_
      refine HW_seq rfl ?_
      refine HW_text (.act 0 (.pure 1 .done)) (by kernel_rfl) ?_
      refine a_call rfl rfl rfl go9 (law_alive _) fun v w hR => ?_
      obtain ⟨rfl, hE⟩ := hR
      refine ⟨trivial, ?_⟩
      replace hm := hm.ext hE
      refine rw_p rfl rfl (y_assign rfl) ?_
      refine rw_done ?_
      refine gn_sq ?_
      refine HW_ret rfl ?_
      refine gr_sq ?_
      refine toR (fin hret rfl (.tmp rfl .nil) .one ?_)
      exact ⟨rfl, hm.to⟩
    ·
      refine HW_text (.pure 0 (.pure 1 (.pure 2 (.pure 3 (.pure 4 (.pure 5 (.pure 6 (.pure 7 (.pure 8 (.pure 9 (.pure 10 (.pure 11 (.pure 12 (.pure 13 (.act 14 (.pure 15 (.pure 16 .done))))))))))))))))) (by kernel_rfl) ?_
      refine rw_p rfl rfl (y_move rfl) ?_
      refine rw_p rfl rfl (y_pnil rfl rfl pb33) ?_
      refine rw_p rfl rfl (y_move rfl) ?_
      refine rw_p rfl rfl (y_fieldAddr rfl fo31_2) ?_
      refine rw_p rfl rfl (y_load rfl sc26 (hm.nt 0 rfl) rfl) ?_
      refine rw_p rfl rfl (y_len rfl rfl sl26) ?_
      refine rw_p rfl rfl (y_as (c := false) (y_gt rfl rfl) (decide_eq_false h200)) ?_
      refine rw_p rfl rfl (y_pickF rfl rfl) ?_
      refine rw_p rfl rfl (y_move rfl) ?_
      refine rw_p rfl rfl (y_move rfl) ?_
      refine rw_p rfl rfl (y_fieldAddr rfl fo29_3) ?_
      refine rw_p rfl rfl (y_load rfl sc3 (hm.nt 1 rfl) rfl) ?_
      refine rw_p rfl rfl (y_fieldAddr rfl fo29_4) ?_
      refine rw_p rfl rfl (y_load rfl sc3 (hm.nt 1 rfl) rfl) ?_
      refine a_call rfl rfl rfl go12 (r22_check (Pl.nDv a c bs) mr Zr _ (OwnZ.end (A := [_, _]) hm.ownZ) hy f b hf hb) fun v w hR => ?_
      obtain ⟨rfl, hE⟩ := hR
      refine ⟨trivial, ?_⟩
      replace hm := hm.ext hE
      refine rw_p rfl rfl (y_ne rfl rfl) ?_
      refine rw_p rfl rfl (y_pickF rfl rfl) ?_
      refine rw_done ?_
      refine gn_sq ?_
      refine HW_cond rfl rfl (fun hc0 => ?_) (fun hc0 => ?_)
      ·
        refine HW_seq rfl ?_
        refine HW_text (.act 0 (.pure 1 .done)) (by kernel_rfl) ?_
        refine a_call rfl rfl rfl go9 (law_alive _) fun v w hR => ?_
        obtain ⟨rfl, hE⟩ := hR
        refine ⟨trivial, ?_⟩
        replace hm := hm.ext hE
        refine rw_p rfl rfl (y_assign rfl) ?_
        refine rw_done ?_
        refine gn_sq ?_
        refine HW_ret rfl ?_
        refine gr_sq ?_
        refine toR (fin hret rfl (.tmp rfl .nil) .one ?_)
        exact ⟨rfl, hm.to⟩
      ·
        simp only [decide_eq_false_iff_not, Decidable.not_not] at hc0
        have hck := hc0
        obtain ⟨F, N, rfl, hN, h0, h2⟩ := Pl.jcheck_ok hck
        replace hN : Pl.slot (a : Int) b = (N : Int) := hN
        replace h2 : F + 2 * N ≤ c := h2
        have hok0 : Pl.okDv (Pl.nDv a c bs) := hz.ok
        have hfit := Pl.slot_fit hN h0
        obtain ⟨B, rfl⟩ : ∃ B : Nat, b = B := ⟨b.toNat, by omega⟩
        refine HW_skip rfl ?_
        refine gn_sq ?_
        refine HW_seq rfl ?_
        refine HW_text (.pure 0 (.pure 1 (.pure 2 (.pure 3 (.pure 4 (.pure 5 (.act 6 (.pure 7 (.pure 8 (.pure 9 (.pure 10 (.pure 11 .done)))))))))))) (by kernel_rfl) ?_
        refine rw_p rfl rfl (y_fieldAddr rfl fo29_3) ?_
        refine rw_p rfl rfl (y_load rfl sc3 (hm.nt 1 rfl) rfl) ?_
        refine rw_p rfl rfl (y_fieldAddr rfl fo29_4) ?_
        refine rw_p rfl rfl (y_load rfl sc3 (hm.nt 1 rfl) rfl) ?_
        refine rw_p rfl rfl (y_fieldAddr rfl fo29_5) ?_
        refine rw_p rfl rfl (y_load rfl sc27 (hm.nt 1 rfl) rfl) ?_
        refine a_call rfl rfl rfl go13 (j_openN F B k hb _) fun v w hR => ?_
        obtain ⟨rfl, hE⟩ := hR
        refine ⟨trivial, ?_⟩
        replace hm := hm.ext hE
        refine rw_p rfl rfl (y_move rfl) ?_
        refine rw_p rfl rfl (y_extract rfl rfl) ?_
        refine rw_p rfl rfl (y_extract rfl rfl) ?_
        refine rw_p rfl rfl (y_assign rfl) ?_
        refine rw_p rfl rfl (y_assign rfl) ?_
        refine rw_done ?_
        refine gn_sq ?_
        refine HW_seq rfl ?_
        refine HW_text (.pure 0 (.pure 1 (.pure 2 (.pure 3 (.pure 4 (.pure 5 (.pure 6 (.act 7 (.pure 8 (.pure 9 (.pure 10 (.pure 11 (.pure 12 .done))))))))))))) (by kernel_rfl) ?_
        refine rw_p rfl rfl (y_move rfl) ?_
        refine rw_p rfl rfl (y_fieldAddr rfl fo29_3) ?_
        refine rw_p rfl rfl (y_load rfl sc3 (hm.nt 1 rfl) rfl) ?_
        refine rw_p rfl rfl (y_fieldAddr rfl fo29_4) ?_
        refine rw_p rfl rfl (y_load rfl sc3 (hm.nt 1 rfl) rfl) ?_
        refine rw_p rfl rfl (y_fieldAddr rfl fo29_5) ?_
        refine rw_p rfl rfl (y_load rfl sc27 (hm.nt 1 rfl) rfl) ?_
        refine a_call rfl rfl rfl go13 (j_open (Pl.nDv a c bs) m Zw _ (OwnZ.mid (A := [_, _]) hm.ownZ) hz F N B hb hN h0 h2 k rfl) fun v w hR => ?_
        obtain ⟨j, Zj, rfl, hj, hmc⟩ := hR
        refine ⟨trivial, ?_⟩
        obtain ⟨p_x, c_x, g_x, b_x, rfl, ha_x⟩ := hj
        replace hm := hm.callN hmc
        have hS1 := Pl.jnext_rng (Pl.jrecs (Pl.nDv a c bs) F N)
        obtain ⟨S, hS⟩ : ∃ S, Pl.jopen (Pl.nDv a c bs) F N k = S := ⟨_, rfl⟩
        replace hS1 : 0 ≤ S.nx ∧ S.nx ≤ 18446744073709551615 := by rw [← hS]; exact hS1
        rw [hS] at hm ha_x
        have hjap : Pl.japp (Pl.nDv a c bs) F N B S (Pl.jmk S k 0 0 (List.replicate (B + 1) (0 : UInt8))) = (2, (Pl.nDv a c bs), S) := if_neg (by rintro ⟨_, h9⟩; simp only [Pl.jmk, List.length_replicate] at h9; omega)
        refine rw_p rfl rfl (y_move rfl) ?_
        refine rw_p rfl rfl (y_extract rfl rfl) ?_
        refine rw_p rfl rfl (y_extract rfl rfl) ?_
        refine rw_p rfl rfl (y_assign rfl) ?_
        refine rw_p rfl rfl (y_assign rfl) ?_
        refine rw_done ?_
        refine gn_sq ?_
        refine HW_seq rfl ?_
        refine HW_seq rfl ?_
        refine HW_text (.pure 0 (.pure 1 .done)) (by kernel_rfl) ?_
        refine rw_p rfl rfl (y_move rfl) ?_
        refine rw_p rfl rfl (y_pnil rfl rfl pb37) ?_
        refine rw_done ?_
        refine gn_sq ?_
        refine HW_condF rfl rfl rfl ?_
        refine HW_skip rfl ?_
        refine gn_sq ?_
        refine HW_seq rfl ?_
        refine HW_text (.pure 0 (.pure 1 (.pure 2 (.act 3 (.pure 4 .done))))) (by kernel_rfl) ?_
        refine rw_p rfl rfl (y_fieldAddr rfl fo29_4) ?_
        refine rw_p rfl rfl (y_load rfl sc3 (hm.nt 3 rfl) rfl) ?_
        refine rw_p rfl rfl (y_add rfl rfl ((i64w (by omega) (by omega)).trans (show _ = ((B + 1 : Nat) : Int) by omega))) ?_
        refine a_make rfl rfl rfl rfl sl26 z5 rfl (by omega) (by omega) (by omega) hm trivial fun g_s w hg_s ha_s hm hh => ?_
        replace ha_s := ha_s.to (show _ = (List.replicate (B + 1) (0 : UInt8)).flatMap encB from repB (B + 1))
        refine rw_p rfl rfl (y_assign rfl) ?_
        replace hm := (hm.pickT [0, 3, 4, 1, 2] 5 rfl)
        refine rw_done ?_
        refine gn_sq ?_
        refine HW_seq rfl ?_
        refine HW_draw (.pure 0 (.pure 1 (.pure 2 (.pure 3 (.pure 4 (.pure 5 (.pure 6 (.pure 7 (.pure 8 (.cut (.act 9 (.act 10 (.pure 11 .done))))))))))))) No mix (by kernel_rfl) hm fun w hw hm0 hh => ?_
        have hm := hm0
        refine rw_p rfl rfl (y_move rfl) ?_
        refine rw_p rfl rfl (y_move rfl) ?_
        refine rw_p rfl rfl (y_fieldAddr rfl fo29_4) ?_
        refine rw_p rfl rfl (y_load rfl sc3 (hm0.nd 2 rfl id) rfl) ?_
        refine rw_p rfl rfl (y_v (y_slice (ln := 0) (hn := B) rfl sl26 rfl ⟨_, rfl⟩ (by omega) (by omega) (fun _ ad e => by cases e; rfl)) (show _ = Value.slice (slp (some ⟨g_s, 0, none⟩) (B + 1) 0 1) ((List.replicate (B + 1) (0 : UInt8)).take B).length (B + 1) by simp)) ?_
        refine rw_p rfl rfl (y_move rfl) ?_
        refine rw_p rfl rfl (y_fieldAddr rfl fo29_4) ?_
        refine rw_p rfl rfl (y_load rfl sc3 (hm0.nd 2 rfl id) rfl) ?_
        refine rw_p rfl rfl (y_v (y_slice (ln := B) (hn := (B + 1)) rfl sl26 ⟨_, rfl⟩ rfl (by omega) (by omega) (fun _ ad e => by cases e; rfl)) (show _ = Value.slice (slp (some ⟨g_s, 0, none⟩) (B + 1) B 1) ((List.replicate (B + 1) (0 : UInt8)).drop B).length (B + 1 - B) by simp)) ?_
        refine a_cut ?_
        refine a_buildSlice (l := [_, _]) rfl rfl sl88 z26 rfl rfl rfl rfl rfl rfl rfl hm trivial fun m3 w hg_m3 hm hh => ?_
        refine a_call rfl rfl rfl go14 (j_append (Pl.nDv a c bs) m Zw S j _ F N B k 0 0 _ 2 [⟨slp (some ⟨g_s, 0, none⟩) (B + 1) 0 1, B + 1, (List.replicate (B + 1) (0 : UInt8)).take B⟩, ⟨slp (some ⟨g_s, 0, none⟩) (B + 1) B 1, B + 1 - B, (List.replicate (B + 1) (0 : UInt8)).drop B⟩] (List.replicate (B + 1) (0 : UInt8)) _ (OwnZ.mid (A := [_, _, _, _]) (Z1 := _ :: _ :: Zw) (Z2 := Zr) hm.ownZ) hz ⟨p_x, c_x, g_x, b_x, rfl, ha_x⟩ hb hN h0 h2 hS1 hk (by decide) (by decide) (Rd.row0 (hm.get (k := 0) rfl)) (fun s hs => (List.mem_cons.1 hs).elim (fun e => by rw [e]; exact (ha_s.rd hm 1 rfl).takeV (cap := B + 1) (by simp)) fun h => by rw [List.mem_singleton.1 h]; exact (ha_s.rd hm 1 rfl).dropV (cap := B + 1) (by simp)) (by simp) (show (List.replicate (B + 1) (0 : UInt8)).take B ++ ((List.replicate (B + 1) (0 : UInt8)).drop B ++ []) = (List.replicate (B + 1) (0 : UInt8)) by rw [List.append_nil, List.take_append_drop]) (by simp; omega) (show 0 + c ≤ 1000000000 by omega)) fun v w hR => ?_
        obtain ⟨rfl, Zj, Zw2, hj, hz2, hmc⟩ := hR
        refine ⟨trivial, ?_⟩
        obtain ⟨p_x, c_x, g_x, b_x, rfl, ha_x⟩ := hj
        replace hm := Mem.callM (A := [_, _, _, _]) (Z := _ :: _ :: Zw) (L := Zr) hm hmc
        rw [hjap] at hz2 ha_x hm ⊢
        simp only at hz2 ha_x hm ⊢
        refine rw_p rfl rfl (y_assign rfl) ?_
        refine rw_done ?_
        refine gn_sq ?_
        refine HW_seq rfl ?_
        refine HW_text (.pure 0 .done) (by kernel_rfl) ?_
        refine rw_p rfl rfl (y_assign rfl) ?_
        refine rw_done ?_
        refine gn_sq ?_
        refine HW_seq rfl ?_
        refine HW_text (.pure 0 (.act 1 (.pure 2 (.pure 3 (.pure 4 (.act 5 (.act 6 (.pure 7 .done)))))))) (by kernel_rfl) ?_
        refine rw_p rfl rfl (y_move rfl) ?_
        refine a_call rfl rfl rfl go15 (j_lastN _) fun v w hR => ?_
        obtain ⟨rfl, hE⟩ := hR
        refine ⟨trivial, ?_⟩
        replace hm := hm.ext hE
        refine rw_p rfl rfl (y_move rfl) ?_
        refine rw_p rfl rfl (y_extract rfl rfl) ?_
        refine rw_p rfl rfl (y_extract rfl rfl) ?_
        refine a_alloc rfl rfl z43 hm trivial fun m4 w hg_m4 hm hh => ?_
        refine a_store rfl rfl rfl rfl sz43 rfl hm 0 rfl rfl fun w hm => ?_
        refine rw_p rfl rfl (y_assign rfl) ?_
        refine rw_done ?_
        refine gn_sq ?_
        refine HW_seq rfl ?_
        refine HW_text (.act 0 (.pure 1 (.pure 2 (.pure 3 (.pure 4 (.pure 5 (.pure 6 (.pure 7 (.pure 8 (.pure 9 (.pure 10 (.pure 11 (.pure 12 (.pure 13 (.pure 14 (.act 15 (.pure 16 (.pure 17 (.pure 18 (.pure 19 (.pure 20 (.pure 21 (.pure 22 (.pure 23 (.pure 24 (.pure 25 (.pure 26 (.act 27 (.act 28 (.pure 29 (.pure 30 (.pure 31 (.pure 32 (.pure 33 (.pure 34 (.pure 35 (.pure 36 (.act 37 (.pure 38 (.pure 39 (.pure 40 (.pure 41 (.act 42 (.pure 43 (.pure 44 (.pure 45 (.pure 46 .done))))))))))))))))))))))))))))))))))))))))))))))) (by kernel_rfl) ?_
        refine a_call rfl rfl rfl go9 (law_alive _) fun v w hR => ?_
        obtain ⟨rfl, hE⟩ := hR
        refine ⟨trivial, ?_⟩
        replace hm := hm.ext hE
        refine rw_p rfl rfl (y_move rfl) ?_
        refine rw_p rfl rfl (y_move rfl) ?_
        refine rw_p rfl rfl (y_pnil rfl rfl pb37) ?_
        refine rw_p rfl rfl (y_pickT rfl rfl) ?_
        refine rw_p rfl rfl (y_move rfl) ?_
        refine rw_p rfl rfl (y_move rfl) ?_
        refine rw_p rfl rfl (y_as (c := true) (y_eq rfl rfl) (by decide)) ?_
        refine rw_p rfl rfl (y_pickT rfl rfl) ?_
        refine rw_p rfl rfl (y_move rfl) ?_
        refine rw_p rfl rfl (y_move rfl) ?_
        refine rw_p rfl rfl (y_as (c := true) (y_eq rfl rfl) (by decide)) ?_
        refine rw_p rfl rfl (y_pickT rfl rfl) ?_
        refine rw_p rfl rfl (y_move rfl) ?_
        refine rw_p rfl rfl (y_move rfl) ?_
        refine a_call rfl rfl rfl go16 (o_stats (Pl.nDv a c bs) m Zw2 _ (OwnZ.mid (A := [_, _, _, _, _, _, _]) hm.ownZ) hz2) fun v w hR => ?_
        obtain ⟨rfl, hE⟩ := hR
        refine ⟨trivial, ?_⟩
        replace hm := hm.ext hE
        refine rw_p rfl rfl (y_build (cs := [_, _, _, _, _]) z47 ft47 rfl rfl rfl rfl rfl) ?_
        refine rw_p rfl rfl (y_as (c := true) (y_eqF rfl rfl fl47 rfl rfl) (by rfl)) ?_
        refine rw_p rfl rfl (y_pickT rfl rfl) ?_
        refine rw_p rfl rfl (y_move rfl) ?_
        refine rw_p rfl rfl (y_move rfl) ?_
        refine rw_p rfl rfl (y_fieldAddr rfl fo31_0) ?_
        refine rw_p rfl rfl (y_load rfl sc3 (hm.nt 3 rfl) rfl) ?_
        refine rw_p rfl rfl (y_fieldAddr rfl fo31_1) ?_
        refine rw_p rfl rfl (y_load rfl sc3 (hm.nt 3 rfl) rfl) ?_
        refine rw_p rfl rfl (y_fieldAddr rfl fo31_2) ?_
        refine rw_p rfl rfl (y_load rfl sc26 (hm.nt 3 rfl) rfl) ?_
        refine a_buildSlice (l := [_]) rfl rfl sl88 z26 rfl rfl rfl rfl rfl rfl rfl hm trivial fun m5 w hg_m5 hm hh => ?_
        refine a_call rfl rfl rfl go14 (j_appendN _ _ _ _ _ _) fun v w hR => ?_
        obtain ⟨rfl, hE⟩ := hR
        refine ⟨trivial, ?_⟩
        replace hm := hm.ext hE
        refine rw_p rfl rfl (y_as (c := true) (y_eq rfl rfl) (by decide)) ?_
        refine rw_p rfl rfl (y_pickT rfl rfl) ?_
        refine rw_p rfl rfl (y_move rfl) ?_
        refine rw_p rfl rfl (y_move rfl) ?_
        refine rw_p rfl rfl (y_not rfl) ?_
        refine rw_p rfl rfl (y_pickT rfl rfl) ?_
        refine rw_p rfl rfl (y_move rfl) ?_
        refine rw_p rfl rfl (y_move rfl) ?_
        refine a_call rfl rfl rfl go17 (j_nextN _) fun v w hR => ?_
        obtain ⟨rfl, hE⟩ := hR
        refine ⟨trivial, ?_⟩
        replace hm := hm.ext hE
        refine rw_p rfl rfl (y_as (c := true) (y_eq rfl rfl) (by decide)) ?_
        refine rw_p rfl rfl (y_pickT rfl rfl) ?_
        refine rw_p rfl rfl (y_move rfl) ?_
        refine rw_p rfl rfl (y_move rfl) ?_
        refine a_call rfl rfl rfl go18 (j_regionN _) fun v w hR => ?_
        obtain ⟨rfl, hE⟩ := hR
        refine ⟨trivial, ?_⟩
        replace hm := hm.ext hE
        refine rw_p rfl rfl (y_build (cs := [_, _]) z51 ft51 rfl rfl rfl rfl rfl) ?_
        refine rw_p rfl rfl (y_as (c := true) (y_eq2 rfl rfl iii51) (by decide)) ?_
        refine rw_p rfl rfl (y_pickT rfl rfl) ?_
        refine rw_p rfl rfl (y_assign rfl) ?_
        refine rw_done ?_
        refine gn_sq ?_
        refine HW_ret rfl ?_
        refine toR (fin hret rfl (.tmp rfl .nil) .one ?_)
        exact ⟨rfl, hm.to⟩
  ·
    refine HW_text (.pure 0 (.act 1 (.pure 2 (.pure 3 (.pure 4 (.pure 5 (.pure 6 .done))))))) (by kernel_rfl) ?_
    refine rw_p rfl rfl (y_loadA (s := 6) (vs := [_, _, _, _, _, _]) rfl ag29 (hm.nt 1 rfl) rfl) ?_
    refine a_call rfl rfl rfl go11 (dv_bad u1 u2 pb cb bs f b k _ (hbk.ext hm.to) hu1 hu2 hmk) fun v w hR => ?_
    obtain ⟨rfl, hE⟩ := hR
    refine ⟨trivial, ?_⟩
    replace hm := hm.ext hE
    refine rw_p rfl rfl (y_move rfl) ?_
    refine rw_p rfl rfl (y_extract rfl rfl) ?_
    refine rw_p rfl rfl (y_extract rfl rfl) ?_
    refine rw_p rfl rfl (y_assign rfl) ?_
    refine rw_p rfl rfl (y_assign rfl) ?_
    refine rw_done ?_
    refine gn_sq ?_
    refine HW_seq rfl ?_
    refine HW_seq rfl ?_
    by_cases h200 : (200 : Int) < ds.length
    ·
      refine HW_text (.pure 0 (.pure 1 (.pure 2 (.pure 3 (.pure 4 (.pure 5 (.pure 6 (.pure 7 (.pure 8 (.pure 9 (.pure 10 (.pure 11 (.pure 12 (.pure 13 (.act 14 (.pure 15 (.pure 16 .done))))))))))))))))) (by kernel_rfl) ?_
      refine rw_p rfl rfl (y_move rfl) ?_
      refine rw_p rfl rfl (y_pnil rfl rfl pb33) ?_
      refine rw_p rfl rfl (y_move rfl) ?_
      refine rw_gf rfl rfl (by decide) rfl ?_
      refine rw_gf rfl rfl (by decide) rfl ?_
      refine rw_gf rfl rfl (by decide) rfl ?_
      refine rw_gf rfl rfl (by decide) rfl ?_
      refine rw_p rfl rfl (y_pickT rfl rfl) ?_
      refine rw_p rfl rfl (y_move rfl) ?_
      refine rw_gf rfl rfl (by decide) rfl ?_
      refine rw_gf rfl rfl (by decide) rfl ?_
      refine rw_gf rfl rfl (by decide) rfl ?_
      refine rw_gf rfl rfl (by decide) rfl ?_
      refine rw_gf rfl rfl (by decide) rfl ?_
      refine a_gf rfl rfl (by decide) rfl trivial ?_
      refine rw_gf rfl rfl (by decide) rfl ?_
      refine rw_p rfl rfl (y_pickT rfl rfl) ?_
      refine rw_done ?_
      refine gn_sq ?_
      refine HW_condT rfl rfl rfl ?_
      refine HW_seq rfl ?_
      refine HW_text (.act 0 (.pure 1 .done)) (by kernel_rfl) ?_
      refine a_call rfl rfl rfl go9 (law_alive _) fun v w hR => ?_
      obtain ⟨rfl, hE⟩ := hR
      refine ⟨trivial, ?_⟩
      replace hm := hm.ext hE
      refine rw_p rfl rfl (y_assign rfl) ?_
      refine rw_done ?_
      refine gn_sq ?_
      refine HW_ret rfl ?_
      refine gr_sq ?_
      refine toR (fin hret rfl (.tmp rfl .nil) .one ?_)
      exact ⟨rfl, hm.to⟩
    ·
      refine HW_text (.pure 0 (.pure 1 (.pure 2 (.pure 3 (.pure 4 (.pure 5 (.pure 6 (.pure 7 (.pure 8 (.pure 9 (.pure 10 (.pure 11 (.pure 12 (.pure 13 (.act 14 (.pure 15 (.pure 16 .done))))))))))))))))) (by kernel_rfl) ?_
      refine rw_p rfl rfl (y_move rfl) ?_
      refine rw_p rfl rfl (y_pnil rfl rfl pb33) ?_
      refine rw_p rfl rfl (y_move rfl) ?_
      refine rw_gf rfl rfl (by decide) rfl ?_
      refine rw_gf rfl rfl (by decide) rfl ?_
      refine rw_gf rfl rfl (by decide) rfl ?_
      refine rw_gf rfl rfl (by decide) rfl ?_
      refine rw_p rfl rfl (y_pickT rfl rfl) ?_
      refine rw_p rfl rfl (y_move rfl) ?_
      refine rw_gf rfl rfl (by decide) rfl ?_
      refine rw_gf rfl rfl (by decide) rfl ?_
      refine rw_gf rfl rfl (by decide) rfl ?_
      refine rw_gf rfl rfl (by decide) rfl ?_
      refine rw_gf rfl rfl (by decide) rfl ?_
      refine a_gf rfl rfl (by decide) rfl trivial ?_
      refine rw_gf rfl rfl (by decide) rfl ?_
      refine rw_p rfl rfl (y_pickT rfl rfl) ?_
      refine rw_done ?_
      refine gn_sq ?_
      refine HW_condT rfl rfl rfl ?_
      refine HW_seq rfl ?_
      refine HW_text (.act 0 (.pure 1 .done)) (by kernel_rfl) ?_
      refine a_call rfl rfl rfl go9 (law_alive _) fun v w hR => ?_
      obtain ⟨rfl, hE⟩ := hR
      refine ⟨trivial, ?_⟩
      replace hm := hm.ext hE
      refine rw_p rfl rfl (y_assign rfl) ?_
      refine rw_done ?_
      refine gn_sq ?_
      refine HW_ret rfl ?_
      refine gr_sq ?_
      refine toR (fin hret rfl (.tmp rfl .nil) .one ?_)
      exact ⟨rfl, hm.to⟩

end Go.Proofs.Ythailbggeafckaa
