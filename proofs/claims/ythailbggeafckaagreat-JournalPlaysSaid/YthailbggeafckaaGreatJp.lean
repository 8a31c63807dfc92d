/- Contracts of functions of the program: what each returns. Conditions: the hypotheses of each theorem. -/
import Derived.Test.YthailbggeafckaaGreatJnJ
set_option linter.unusedVariables false
set_option linter.unusedSimpArgs false
namespace Go.Proofs.YthailbggeafckaaGreat
open Go Go.Cx

theorem go84 : isGo Tryz.prog 84 = true := by kernel_rfl

def rjrow (pm : Value) (f b k : Int) (S : Pl.Jn) (p : Option Addr) (c : Nat) : List Value :=
  [pm, .int .i64 f, .int .i64 b, .int .u64 k, .int .u64 S.nx, .bool S.has, .int .u64 S.la.sq, .int .u64 S.la.id, .int .i64 S.la.cu, .int .i64 S.la.of, .slice p S.la.bs.length c]
/-- bytes that lie in a bag of one's own, or none -/
def RdX (B : List (Nat × Blk)) (U8 : Nat) (p : Option Addr) (c : Nat) (bs : List UInt8) : Prop := (p = none ∧ bs = []) ∨ Held B U8 ⟨p, c, bs⟩
theorem RdX.mono {B C : List (Nat × Blk)} {U8 : Nat} {p : Option Addr} {c : Nat} {bs : List UInt8} (h : RdX B U8 p c bs) (hs : ∀ e, e ∈ B → e ∈ C) : RdX C U8 p c bs := h.elim .inl fun h => .inr (h.mono hs)
theorem RdX.rd {B L : List (Nat × Blk)} {U8 : Nat} {p : Option Addr} {c : Nat} {bs : List UInt8} {w0 w : World} {X : Bs} (h : RdX B U8 p c bs) (hm : Mem w0 w X L) (hs : ∀ e, e ∈ B → e ∈ L) : Rd w p (bs.flatMap encB) := by
  rcases h with ⟨rfl, rfl⟩ | h
  · rfl
  · exact h.rd hm hs
def jtop : List Pl.Rc → Int
  | [] => 0
  | [x] => x.sq
  | x :: y :: _ => max x.sq y.sq
theorem jnext_top {l : List Pl.Rc} (h : l ≠ []) : Pl.jnext l = IntKind.u64.wrap (jtop l + 1) := by
  match l, h with
  | [x], _ => rfl
  | x :: y :: r, _ => rfl
theorem jtop_add {l : List Pl.Rc} {x : Pl.Rc} (h : l.length ≤ 1) : jtop (l ++ [x]) = if l.length = 0 ∨ jtop l < x.sq then x.sq else jtop l := by
  match l, h with
  | [], _ => rfl
  | [y], _ =>
    have e : jtop ([y] ++ [x]) = max y.sq x.sq := rfl
    have e2 : jtop [y] = y.sq := rfl
    by_cases h : jtop [y] < x.sq
    · rw [if_pos (Or.inr h), e]; omega
    · rw [if_neg (fun h9 => h9.elim (fun h8 => by cases h8) h), e]; omega
theorem bag3 {q a : Nat × Blk} {M B : List (Nat × Blk)} : ((q :: M) ++ (a :: B)).Perm (q :: a :: (B ++ M)) := by
  refine List.Perm.cons _ ?_
  exact List.perm_append_comm

theorem r21_right (r : Pl.Rc) (p : Option Addr) (cap : Nat) (w0 : World) (hk : Pl.okRc r) : C Tryz.prog 39 [.agg ⟨rcV r p r.bs.length cap⟩] w0 fun v w' => v = .bool (Pl.rright r) ∧ Ext No w0 w' := by
  refine C_of Tryz.func39 rfl rfl rfl fun κ hret hnorm => ?_
  have hm := Mem.start w0
  refine HW_seq rfl ?_
  refine HW_text (.act 0 (.pure 1 .done)) (by kernel_rfl) ?_
  refine a_box rfl rfl rfl rfl hm trivial fun m1 w hg_m1 hm hh => ?_
  refine rw_p rfl rfl (y_assign rfl) ?_
  refine rw_done ?_
  refine gn_sq ?_
  refine HW_seq rfl ?_
  refine HW_draw (.pure 0 (.pure 1 (.pure 2 (.pure 3 (.pure 4 (.pure 5 (.act 6 (.pure 7 (.pure 8 (.pure 9 (.pure 10 (.pure 11 (.pure 12 (.pure 13 (.pure 14 (.pure 15 (.pure 16 (.act 17 (.pure 18 (.pure 19 (.pure 20 (.pure 21 (.pure 22 (.pure 23 (.pure 24 (.pure 25 (.pure 26 .done))))))))))))))))))))))))))) No mix (by kernel_rfl) hm fun w hw hm0 hh => ?_
  have hm := hm0
  refine rw_p rfl rfl (y_fieldAddr rfl fo78_2) ?_
  refine rw_p rfl rfl (y_load rfl sc3 (hm0.nd 0 rfl id) rfl) ?_
  refine rw_p rfl rfl (y_ge rfl rfl) ?_
  refine rw_p rfl rfl (y_move rfl) ?_
  refine rw_g rfl rfl rfl (fun hc => (y_fieldAddr rfl fo78_2)) ?_
  refine rw_g rfl rfl rfl (fun hc => (y_load (gx hc rfl) sc3 (hm0.nd 0 rfl id) rfl)) ?_
  refine a_callG rfl rfl rfl (fun hc => rfl) go79 (fun hc => (r1_max _)) hh fun w hE hh => ?_
  replace hm := hm.ext hE
  refine rw_g rfl rfl rfl (fun hc => (y_le (gx hc rfl) (gx hc rfl))) ?_
  refine rw_p rfl rfl (y_and rfl rfl rfl) ?_
  refine rw_p rfl rfl (y_move rfl) ?_
  refine rw_g rfl rfl rfl (fun hc => (y_fieldAddr rfl fo78_3)) ?_
  refine rw_g rfl rfl rfl (fun hc => (y_load (gx hc rfl) sc3 (hm0.nd 0 rfl id) rfl)) ?_
  refine rw_g rfl rfl rfl (fun hc => (y_ge (gx hc rfl) rfl)) ?_
  refine rw_p rfl rfl (y_and rfl rfl rfl) ?_
  refine rw_p rfl rfl (y_move rfl) ?_
  refine rw_g rfl rfl rfl (fun hc => (y_fieldAddr rfl fo78_3)) ?_
  refine rw_g rfl rfl rfl (fun hc => (y_load (gx hc rfl) sc3 (hm0.nd 0 rfl id) rfl)) ?_
  refine a_callG rfl rfl rfl (fun hc => rfl) go79 (fun hc => (r1_max _)) hh fun w hE hh => ?_
  replace hm := hm.ext hE
  refine rw_g rfl rfl rfl (fun hc => (y_le (gx hc rfl) (gx hc rfl))) ?_
  refine rw_p rfl rfl (y_and rfl rfl rfl) ?_
  refine rw_p rfl rfl (y_move rfl) ?_
  refine rw_g rfl rfl rfl (fun hc => (y_fieldAddr rfl fo78_4)) ?_
  refine rw_g rfl rfl rfl (fun hc => (y_load (gx hc rfl) sc22 (hm0.nd 0 rfl id) rfl)) ?_
  refine rw_g rfl rfl rfl (fun hc => (y_len (gx hc rfl) rfl sl22)) ?_
  refine rw_g rfl rfl rfl (fun hc => (y_le (gx hc rfl) rfl)) ?_
  refine rw_p rfl rfl (y_and rfl rfl rfl) ?_
  refine rw_p rfl rfl (y_assign rfl) ?_
  refine rw_done ?_
  refine gn_sq ?_
  refine HW_ret rfl ?_
  refine toR (fin hret rfl (.tmp rfl .nil) .one ?_)
  exact ⟨congrArg Value.bool (by clear hret hnorm hm; unfold Pl.rright; rw [Bool.eq_iff_iff]; simp only [Bool.and_eq_true, decide_eq_true_eq]; omega), hm.to⟩

set_option maxHeartbeats 800000 in
theorem r21_encode (r : Pl.Rc) (p : Option Addr) (cap : Nat) (w0 : World) (hx : Rd w0 p (r.bs.flatMap encB)) (hk : Pl.okRc r) (hl : r.bs.length ≤ 70368744177600) (hr : Pl.rright r = true) : C Tryz.prog 41 [.agg ⟨rcV r p r.bs.length cap⟩] w0 fun v w' => ∃ q c g b, v = .slice q (Pl.renc r).length c ∧ Acc 5 1 q (Pl.renc r).length c ((Pl.renc r).flatMap encB) g b ∧ Mem w0 w' No [(g, b)] := by
  obtain ⟨k1, k2, k3, k4⟩ := id hk
  have hr9 := Pl.rright_iff.1 hr
  simp only [Pl.I64] at k3 k4
  have hbl := Pl.rbody_len r
  refine C_of Tryz.func41 rfl rfl rfl fun κ hret hnorm => ?_
  have hm := Mem.start w0
  refine HW_seq rfl ?_
  refine HW_text (.act 0 (.pure 1 .done)) (by kernel_rfl) ?_
  refine a_box rfl rfl rfl rfl hm trivial fun m1 w hg_m1 hm hh => ?_
  refine rw_p rfl rfl (y_assign rfl) ?_
  refine rw_done ?_
  refine gn_sq ?_
  refine HW_seq rfl ?_
  refine HW_text (.act 0 (.act 1 (.pure 2 .done))) (by kernel_rfl) ?_
  refine a_buildSlice (l := [_, _, _, _]) rfl rfl sl22 z5 rfl rfl rfl rfl rfl rfl rfl hm trivial fun m2 w hg_m2 hm hh => ?_
  refine a_mkd rfl rfl rfl cb22 hm 0 rfl fun w hm => ?_
  refine rw_p rfl rfl (y_assign rfl) ?_
  refine rw_done ?_
  refine gn_sq ?_
  refine HW_seq rfl ?_
  refine HW_text (.pure 0 (.pure 1 (.pure 2 (.act 3 (.pure 4 .done))))) (by kernel_rfl) ?_
  refine rw_p rfl rfl (y_move rfl) ?_
  refine rw_p rfl rfl (y_fieldAddr rfl fo78_0) ?_
  refine rw_p rfl rfl (y_load rfl sc23 (hm.nt 1 rfl) rfl) ?_
  refine a_call rfl rfl rfl go84 (r6_append _ 4 Pl.magic r.sq 8 _ (Rd.mkd (hm.get (k := 0) rfl)) (by decide) k1 (by decide)) fun v w hR => ?_
  obtain ⟨p_s0, n_s0, cap_s0, g_s0, b_s0, rfl, ha_s0, hmc⟩ := hR
  refine ⟨trivial, ?_⟩
  replace hm := hm.callN hmc
  obtain rfl := ha_s0.lenB
  refine rw_p rfl rfl (y_assign rfl) ?_
  refine rw_done ?_
  refine gn_sq ?_
  refine HW_seq rfl ?_
  refine HW_text (.pure 0 (.pure 1 (.pure 2 (.act 3 (.pure 4 .done))))) (by kernel_rfl) ?_
  refine rw_p rfl rfl (y_move rfl) ?_
  refine rw_p rfl rfl (y_fieldAddr rfl fo78_1) ?_
  refine rw_p rfl rfl (y_load rfl sc23 (hm.nt 2 rfl) rfl) ?_
  refine a_call rfl rfl rfl go84 (r6_append p_s0 cap_s0 (Pl.magic ++ Pl.be r.sq 8) r.id 8 _ (ha_s0.rd hm 0 rfl) (by simp only [List.length_append, Pl.be_len]; decide) (by omega) (by decide)) fun v w hR => ?_
  obtain ⟨p_s1, n_s1, cap_s1, g_s1, b_s1, rfl, ha_s1, hmc⟩ := hR
  refine ⟨trivial, ?_⟩
  replace hm := hm.callN hmc
  obtain rfl := ha_s1.lenB
  refine rw_p rfl rfl (y_assign rfl) ?_
  refine rw_done ?_
  refine gn_sq ?_
  refine HW_seq rfl ?_
  refine HW_text (.pure 0 (.pure 1 (.pure 2 (.pure 3 (.act 4 (.pure 5 .done)))))) (by kernel_rfl) ?_
  refine rw_p rfl rfl (y_move rfl) ?_
  refine rw_p rfl rfl (y_fieldAddr rfl fo78_2) ?_
  refine rw_p rfl rfl (y_load rfl sc3 (hm.nt 3 rfl) rfl) ?_
  refine rw_p rfl rfl (y_conv rfl is3 it23 (u64w (by omega) (by omega))) ?_
  refine a_call rfl rfl rfl go84 (r6_append p_s1 cap_s1 (Pl.magic ++ Pl.be r.sq 8 ++ Pl.be r.id 8) r.cu 8 _ (ha_s1.rd hm 0 rfl) (by simp only [List.length_append, Pl.be_len]; decide) (by omega) (by decide)) fun v w hR => ?_
  obtain ⟨p_s2, n_s2, cap_s2, g_s2, b_s2, rfl, ha_s2, hmc⟩ := hR
  refine ⟨trivial, ?_⟩
  replace hm := hm.callN hmc
  obtain rfl := ha_s2.lenB
  refine rw_p rfl rfl (y_assign rfl) ?_
  refine rw_done ?_
  refine gn_sq ?_
  refine HW_seq rfl ?_
  refine HW_text (.pure 0 (.pure 1 (.pure 2 (.pure 3 (.act 4 (.pure 5 .done)))))) (by kernel_rfl) ?_
  refine rw_p rfl rfl (y_move rfl) ?_
  refine rw_p rfl rfl (y_fieldAddr rfl fo78_3) ?_
  refine rw_p rfl rfl (y_load rfl sc3 (hm.nt 4 rfl) rfl) ?_
  refine rw_p rfl rfl (y_conv rfl is3 it23 (u64w (by omega) (by omega))) ?_
  refine a_call rfl rfl rfl go84 (r6_append p_s2 cap_s2 (Pl.magic ++ Pl.be r.sq 8 ++ Pl.be r.id 8 ++ Pl.be r.cu 8) r.of 8 _ (ha_s2.rd hm 0 rfl) (by simp only [List.length_append, Pl.be_len]; decide) (by omega) (by decide)) fun v w hR => ?_
  obtain ⟨p_s3, n_s3, cap_s3, g_s3, b_s3, rfl, ha_s3, hmc⟩ := hR
  refine ⟨trivial, ?_⟩
  replace hm := hm.callN hmc
  obtain rfl := ha_s3.lenB
  refine rw_p rfl rfl (y_assign rfl) ?_
  refine rw_done ?_
  refine gn_sq ?_
  refine HW_seq rfl ?_
  refine HW_text (.pure 0 (.pure 1 (.pure 2 (.pure 3 (.pure 4 (.act 5 (.pure 6 .done))))))) (by kernel_rfl) ?_
  refine rw_p rfl rfl (y_move rfl) ?_
  refine rw_p rfl rfl (y_fieldAddr rfl fo78_4) ?_
  refine rw_p rfl rfl (y_load rfl sc22 (hm.nt 5 rfl) rfl) ?_
  refine rw_p rfl rfl (y_len rfl rfl sl22) ?_
  refine rw_p rfl rfl (y_conv rfl is3 it23 (u64w (by omega) (by omega))) ?_
  refine a_call rfl rfl rfl go84 (r6_append p_s3 cap_s3 (Pl.magic ++ Pl.be r.sq 8 ++ Pl.be r.id 8 ++ Pl.be r.cu 8 ++ Pl.be r.of 8) (r.bs.length : Int) 4 _ (ha_s3.rd hm 0 rfl) (by simp only [List.length_append, Pl.be_len]; decide) (by omega) (by decide)) fun v w hR => ?_
  obtain ⟨p_s4, n_s4, cap_s4, g_s4, b_s4, rfl, ha_s4, hmc⟩ := hR
  refine ⟨trivial, ?_⟩
  replace hm := hm.callN hmc
  obtain rfl := ha_s4.lenB
  refine rw_p rfl rfl (y_assign rfl) ?_
  refine rw_done ?_
  refine gn_sq ?_
  refine HW_seq rfl ?_
  refine HW_text (.pure 0 (.pure 1 (.pure 2 (.act 3 (.act 4 (.pure 5 .done)))))) (by kernel_rfl) ?_
  refine rw_p rfl rfl (y_move rfl) ?_
  refine rw_p rfl rfl (y_fieldAddr rfl fo78_4) ?_
  refine rw_p rfl rfl (y_load rfl sc22 (hm.nt 6 rfl) rfl) ?_
  refine a_append rfl rfl rfl rfl rfl rfl sl22 sl22 z5 rfl (oneB r.bs) (hx.ext0 hm.to) (lenB r.bs) ha_s4 hm 0 rfl (by simp only [List.length_append, Pl.be_len]; have : Pl.magic.length = 4 := rfl; omega) (by simp only [List.length_append, Pl.be_len]; have : Pl.magic.length = 4 := rfl; omega) fun p_s4 cap_s4 g_s4 b_s4 w ha_s4 hm => ?_
  replace ha_s4 := ha_s4.to (show _ = (Pl.rbody r).flatMap encB by simp only [Pl.rbody, Pl.putB_flds, List.flatMap_append, List.append_assoc]; rfl)
  have hn9 := ha_s4.lenB
  refine a_call rfl rfl rfl go85 (C.eqv (r3_seal p_s4 cap_s4 (Pl.rbody r) _ (ha_s4.rd hm 0 rfl) (by omega)) (by rw [← hn9])) fun v w hR => ?_
  obtain ⟨p_z, cap_z, g_z, b_z, rfl, ha_z, hmc⟩ := hR
  refine ⟨trivial, ?_⟩
  have hg_z : b_z.real = true → _ := fun hr => (hmc.fresh _ List.mem_cons_self hr).resolve_left id
  replace hm := hm.callN hmc
  refine rw_p rfl rfl (y_assign rfl) ?_
  refine rw_done ?_
  refine gn_sq ?_
  refine HW_ret rfl ?_
  refine toR (fin hret rfl (.tmp rfl .nil) .one ?_)
  exact ⟨p_z, cap_z, g_z, b_z, rfl, ha_z, (hm.pick [0] rfl)⟩

set_option maxHeartbeats 800000 in
theorem r20_readS (D : Pl.Dv) (m : Nat) (Z : List (Nat × Blk)) (w0 : World) (hZ : OwnZ w0 Z) (hz : RefZ 50 172 5 D m Z) (a b : Int) (ha : Pl.I64 a) (hb : Pl.I64 b) (hcl : D.ca.length ≤ 1000000000) : C Tryz.prog 30 [.pointer (some ⟨m, 0, none⟩), .agg ⟨[.int .i64 a, .int .i64 b]⟩] w0 fun v w' => ∃ (q : Option Addr) (c : Nat), v = .tuple ⟨[.slice q (Pl.rdB D a b).length c, .int .i64 (Pl.rdCode D a b)]⟩ ∧ Rd w' q ((Pl.rdB D a b).flatMap encB) ∧ (Pl.rdB D a b).length ≤ c ∧ (c ≠ 0 → ∀ ad, q = some ad → ad.spot = none) ∧ Ext No w0 w' := by
  obtain ⟨pbY, cbY, pcY, ccY, csY, hP, -⟩ := hz.row hZ
  have hok := hz.ok
  have hcl9 := Pl.contents_len hok
  have o4 := hok.max
  have hrc : Pl.rdCode D a b = if Pl.onD D a b = false then 2 else if 0 < b ∧ D.dn = true then 18 else 0 := rfl
  refine C_of Tryz.func30 rfl rfl rfl fun κ hret hnorm => ?_
  have hm := Mem.start w0
  refine HW_seq rfl ?_
  refine HW_text (.act 0 (.pure 1 (.pure 2 .done))) (by kernel_rfl) ?_
  refine a_box rfl rfl rfl rfl hm trivial fun m1 w hg_m1 hm hh => ?_
  refine rw_p rfl rfl (y_assign rfl) ?_
  refine rw_p rfl rfl (y_assign rfl) ?_
  refine rw_done ?_
  refine gn_sq ?_
  refine HW_seq rfl ?_
  refine HW_seq rfl ?_
  refine HW_text (.pure 0 (.pure 1 (.act 2 (.pure 3 .done)))) (by kernel_rfl) ?_
  refine rw_p rfl rfl (y_move rfl) ?_
  refine rw_p rfl rfl (y_loadA (s := 2) (vs := [_, _]) rfl ag63 (hm.nt 0 rfl) rfl) ?_
  refine a_call rfl rfl rfl go64 (r20_on D m Z _ (hZ.ext hm.to) hz a b ha hb) fun v w hR => ?_
  obtain ⟨rfl, hE⟩ := hR
  refine ⟨trivial, ?_⟩
  replace hm := hm.ext hE
  refine rw_p rfl rfl (y_not rfl) ?_
  refine rw_done ?_
  refine gn_sq ?_
  refine HW_cond rfl rfl (fun hc0 => ?_) (fun hc0 => ?_)
  ·
    simp only [Bool.not_eq_true'] at hc0
    have hc : Pl.rdCode D a b = 2 := by rw [hrc, if_pos hc0]
    have hB : Pl.rdB D a b = [] := by unfold Pl.rdB; rw [hc]; rfl
    refine HW_seq rfl ?_
    refine HW_text (.pure 0 (.pure 1 .done)) (by kernel_rfl) ?_
    refine rw_p rfl rfl (y_assign rfl) ?_
    refine rw_p rfl rfl (y_assign rfl) ?_
    refine rw_done ?_
    refine gn_sq ?_
    refine HW_ret rfl ?_
    refine gr_sq ?_
    refine toR (fin hret rfl (.tmp rfl (.tmp rfl .nil)) .more ?_)
    exact ⟨none, 0, by rw [hc, hB]; rfl, by rw [hB]; exact rfl, by rw [hB]; exact Nat.le_refl _, fun h => absurd rfl h, hm.to⟩
  ·
    simp only [Bool.not_eq_false'] at hc0
    have hv := Pl.onD_iff.1 hc0
    obtain ⟨x, rfl⟩ : ∃ x : Nat, a = x := ⟨a.toNat, by omega⟩
    obtain ⟨y, rfl⟩ : ∃ y : Nat, b = y := ⟨b.toNat, by omega⟩
    refine HW_skip rfl ?_
    refine gn_sq ?_
    refine HW_seq rfl ?_
    refine HW_seq rfl ?_
    refine HW_text (.pure 0 (.pure 1 (.pure 2 (.pure 3 (.pure 4 (.pure 5 (.pure 6 (.pure 7 (.pure 8 .done))))))))) (by kernel_rfl) ?_
    refine rw_p rfl rfl (y_fieldAddr rfl fo63_1) ?_
    refine rw_p rfl rfl (y_load rfl sc3 (hm.nt 0 rfl) rfl) ?_
    refine rw_p rfl rfl (y_gt rfl rfl) ?_
    refine rw_p rfl rfl (y_move rfl) ?_
    refine rw_g rfl rfl rfl (fun hc => (y_move rfl)) ?_
    refine rw_g rfl rfl rfl (fun hc => (y_nil (gx hc rfl))) ?_
    refine rw_g rfl rfl rfl (fun hc => (y_fieldAddr (gx hc rfl) fo50_6)) ?_
    refine rw_g rfl rfl rfl (fun hc => (y_load (gx hc rfl) sc4 (nowT ((hm.to.same _ (Array.getElem?_eq_some_iff.1 hP).1 id).trans hP)) rfl)) ?_
    refine rw_p rfl rfl (y_and rfl rfl rfl) ?_
    refine rw_done ?_
    refine gn_sq ?_
    refine HW_cond rfl rfl (fun hc1 => ?_) (fun hc1 => ?_)
    ·
      simp only [Bool.and_eq_true, decide_eq_true_eq] at hc1
      have hc : Pl.rdCode D x y = 18 := by rw [hrc, if_neg (by simp [hc0]), if_pos hc1]
      have hB : Pl.rdB D x y = [] := by unfold Pl.rdB; rw [hc]; rfl
      refine HW_seq rfl ?_
      refine HW_text (.pure 0 (.pure 1 .done)) (by kernel_rfl) ?_
      refine rw_p rfl rfl (y_assign rfl) ?_
      refine rw_p rfl rfl (y_assign rfl) ?_
      refine rw_done ?_
      refine gn_sq ?_
      refine HW_ret rfl ?_
      refine gr_sq ?_
      refine toR (fin hret rfl (.tmp rfl (.tmp rfl .nil)) .more ?_)
      exact ⟨none, 0, by rw [hc, hB]; rfl, by rw [hB]; exact rfl, by rw [hB]; exact Nat.le_refl _, fun h => absurd rfl h, hm.to⟩
    ·
      have hc : Pl.rdCode D x y = 0 := by rw [hrc, if_neg (by simp [hc0]), if_neg (by rintro ⟨h1, h2⟩; rw [h2] at hc1; simp at hc1; omega)]
      have hB : Pl.rdB D x y = ((Pl.contents D).drop x).take y := by unfold Pl.rdB; rw [if_pos hc]; rfl
      have hBl : (Pl.rdB D x y).length = y := by rw [hB, List.length_take, List.length_drop]; omega
      refine HW_skip rfl ?_
      refine gn_sq ?_
      refine HW_seq rfl ?_
      refine HW_draw (.pure 0 (.pure 2 (.pure 3 (.pure 4 (.pure 5 (.pure 6 (.pure 7 (.pure 8 (.act 1 (.pure 9 (.pure 10 (.pure 11 .done)))))))))))) No mix (by kernel_rfl) hm fun w hw hm0 hh => ?_
      have hm := hm0
      refine rw_p rfl rfl (y_move rfl) ?_
      refine rw_p rfl rfl (y_fieldAddr rfl fo63_0) ?_
      refine rw_p rfl rfl (y_load rfl sc3 (hm0.nd 0 rfl id) rfl) ?_
      refine rw_p rfl rfl (y_fieldAddr rfl fo63_0) ?_
      refine rw_p rfl rfl (y_load rfl sc3 (hm0.nd 0 rfl id) rfl) ?_
      refine rw_p rfl rfl (y_fieldAddr rfl fo63_1) ?_
      refine rw_p rfl rfl (y_load rfl sc3 (hm0.nd 0 rfl id) rfl) ?_
      refine rw_p rfl rfl (y_add rfl rfl (addK _ (by omega))) ?_
      refine a_call rfl rfl rfl go65 (q_contents D m Z _ (hZ.ext hm.to) hz hcl) fun v w hR => ?_
      obtain ⟨p_t, cap_t, Nt, rfl, hh_t, hmc⟩ := hR
      refine ⟨hh.ext hmc.to, ?_⟩
      have hR_t := hh_t.rd2 (hZ.ext hm.to) (fun _ he => he) hmc
      have hl_t := hh_t.le
      simp only at hl_t
      replace hh := hh.ext hmc.to
      replace hm := Mem.callTZ hm hmc
      refine rw_p rfl rfl (y_v (y_slice (ln := x) (hn := (x + y)) rfl sl22 ⟨_, rfl⟩ ⟨_, rfl⟩ (by omega) (by omega) (fun h => hh_t.spot (by show cap_t ≠ 0; omega))) (show _ = Value.slice (slp p_t cap_t x 1) (Pl.rdB D x y).length (cap_t - x) by rw [hBl, Nat.add_sub_cancel_left])) ?_
      refine rw_p rfl rfl (y_assign rfl) ?_
      refine rw_p rfl rfl (y_assign rfl) ?_
      refine rw_done ?_
      refine gn_sq ?_
      refine HW_ret rfl ?_
      refine toR (fin hret rfl (.tmp rfl (.tmp rfl .nil)) .more ?_)
      exact ⟨_, _, by rw [hc], by rw [hB]; exact hR_t.sub hl_t, by rw [hBl]; omega, fun h ad e => slp_spot (fun h9 => hh_t.spot (by show cap_t ≠ 0; omega)) (by omega) e, hm.to⟩

theorem r22_slotB (D : Pl.Dv) (m : Nat) (Z : List (Nat × Blk)) (w0 : World) (hZ : OwnZ w0 Z) (hz : RefZ 50 172 5 D m Z) (f N : Nat) (b : Int) (hb : Pl.I64 b) (hN : Pl.slot (D.sz : Int) b = (N : Int)) (i : Nat) (h2 : f + 2 * N ≤ D.cnt) (hi : i < 2) : C Tryz.prog 31 [.pointer (some ⟨m, 0, none⟩), .int .i64 (f : Int), .int .i64 b, .int .i64 (i : Int)] w0 fun v w' => v = .agg ⟨[.int .i64 ((Pl.jat D f N i : Nat) : Int), .int .i64 ((N * D.sz : Nat) : Int)]⟩ ∧ Ext No w0 w' := by
  obtain ⟨pbY, cbY, pcY, ccY, csY, hP, -⟩ := hz.row hZ
  have hok := hz.ok
  have o4 := hok.max
  have o7 : D.sz ≤ D.cnt * D.sz := Nat.le_mul_of_pos_left _ hok.cnt
  have hjl := Pl.jat_le h2 hi
  have hj2 := Pl.jat_two (D := D) (f := f) (N := N) hi
  refine C_of Tryz.func31 rfl rfl rfl fun κ hret hnorm => ?_
  have hm := Mem.start w0
  refine HW_seq rfl ?_
  refine HW_text (.act 0 .done) (by kernel_rfl) ?_
  refine a_alloc rfl rfl z63 hm trivial fun m1 w hg_m1 hm hh => ?_
  refine rw_done ?_
  refine gn_sq ?_
  refine HW_seq rfl ?_
  refine HW_draw (.pure 0 (.pure 1 (.pure 2 (.pure 3 (.pure 4 (.pure 6 (.pure 7 (.pure 8 (.pure 9 (.act 5 (.pure 10 (.pure 11 .done)))))))))))) No mix (by kernel_rfl) hm fun w hw hm0 hh => ?_
  have hm := hm0
  refine rw_p rfl rfl (y_move rfl) ?_
  refine rw_p rfl rfl (y_nil rfl) ?_
  refine rw_p rfl rfl (y_fieldAddr rfl fo50_0) ?_
  refine rw_p rfl rfl (y_load rfl sc3 (fun u hu => ((hm0.to.trans hu).same _ (Array.getElem?_eq_some_iff.1 hP).1 id).trans hP) rfl) ?_
  refine rw_p rfl rfl (y_move rfl) ?_
  refine rw_p rfl rfl (y_move rfl) ?_
  refine rw_p rfl rfl (y_nil rfl) ?_
  refine rw_p rfl rfl (y_fieldAddr rfl fo50_0) ?_
  refine rw_p rfl rfl (y_load rfl sc3 (fun u hu => ((hm0.to.trans hu).same _ (Array.getElem?_eq_some_iff.1 hP).1 id).trans hP) rfl) ?_
  refine a_call rfl rfl rfl go29 (C.as (v := .int .i64 (N : Int)) (r22_slot (D.sz : Int) b _ (by simp only [Pl.I64]; omega) hb) (by rw [hN])) fun v w hR => ?_
  obtain ⟨rfl, hE⟩ := hR
  refine ⟨hh.ext hE, ?_⟩
  replace hm := hm.ext hE
  replace hh := hh.ext hE
  refine rw_p rfl rfl (y_mul rfl rfl (mulN (by omega))) ?_
  refine rw_p rfl rfl (y_assign rfl) ?_
  refine rw_done ?_
  refine gn_sq ?_
  refine HW_seq rfl ?_
  refine HW_text (.pure 0 (.pure 1 (.pure 2 (.pure 3 (.pure 4 (.pure 5 (.pure 6 (.pure 7 (.pure 8 (.pure 9 (.pure 10 (.pure 11 (.act 12 .done))))))))))))) (by kernel_rfl) ?_
  refine rw_p rfl rfl (y_move rfl) ?_
  refine rw_p rfl rfl (y_move rfl) ?_
  refine rw_p rfl rfl (y_nil rfl) ?_
  refine rw_p rfl rfl (y_fieldAddr rfl fo50_0) ?_
  refine rw_p rfl rfl (y_load rfl sc3 (nowT ((hm.to.same _ (Array.getElem?_eq_some_iff.1 hP).1 id).trans hP)) rfl) ?_
  refine rw_p rfl rfl (y_mul rfl rfl (mulN (by omega))) ?_
  refine rw_p rfl rfl (y_move rfl) ?_
  refine rw_p rfl rfl (y_move rfl) ?_
  refine rw_p rfl rfl (y_mul rfl rfl (mulN (by omega))) ?_
  refine rw_p rfl rfl (y_v (y_add rfl rfl (addK _ (by omega))) (show _ = Value.int .i64 ((Pl.jat D f N i : Nat) : Int) by rw [hj2])) ?_
  refine rw_p rfl rfl (y_move rfl) ?_
  refine rw_p rfl rfl (y_build (cs := [_, _]) z63 ft63 rfl rfl rfl rfl rfl) ?_
  refine a_store rfl rfl rfl rfl sz63 rfl hm 0 rfl rfl fun w hm => ?_
  refine rw_done ?_
  refine gn_sq ?_
  refine HW_ret rfl ?_
  refine toR (fin hret rfl (.cell rfl (run_loadVar_a (vs := [_, _]) ag63 (hm.get (k := 0) rfl) rfl) .nil) .one ?_)
  exact ⟨rfl, hm.to⟩

end Go.Proofs.YthailbggeafckaaGreat
