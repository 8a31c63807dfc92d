/- Contracts of functions of the program: what each returns. Conditions: the hypotheses of each theorem. -/
import Derived.Test.YtlgkhajmjgepaaaNwF
set_option linter.unusedVariables false
set_option linter.unusedSimpArgs false
namespace Go.Proofs.Ytlgkhajmjgepaaa
open Go Go.Cx

theorem go33 : isGo Try.prog 33 = true := by kernel_rfl
theorem go34 : isGo Try.prog 34 = true := by kernel_rfl
theorem go35 : isGo Try.prog 35 = true := by kernel_rfl
theorem go36 : isGo Try.prog 36 = true := by kernel_rfl

theorem bestR_mem : ∀ {F : List RcV}, F ≠ [] → bestR F ∈ F := by
  intro F h
  cases F with
  | nil => exact absurd rfl h
  | cons x r =>
    show r.foldl _ x ∈ _
    have : ∀ (r : List RcV) (b : RcV), r.foldl (fun b y => if b.sq < y.sq then y else b) b = b ∨ r.foldl (fun b y => if b.sq < y.sq then y else b) b ∈ r := by
      intro r
      induction r with
      | nil => intro b; exact .inl rfl
      | cons y r ih =>
        intro b
        rw [List.foldl_cons]
        rcases ih (if b.sq < y.sq then y else b) with h1 | h1
        · rw [h1]; split
          · exact .inr (by simp)
          · exact .inl rfl
        · exact .inr (List.mem_cons_of_mem _ h1)
    rcases this r x with h1 | h1
    · rw [h1]; simp
    · exact List.mem_cons_of_mem _ h1
theorem bestR_rd {xs : List RcV} {w : World} {k : Int} (hd : ∀ x ∈ xs, Rd w x.d.p (x.d.bs.flatMap encB) ∧ x.d.bs.length ≤ 140737488355328) : Rd w (bestR (xs.filter fun x => decide (x.id = k))).d.p ((bestR (xs.filter fun x => decide (x.id = k))).d.bs.flatMap encB) ∧ (bestR (xs.filter fun x => decide (x.id = k))).d.bs.length ≤ 140737488355328 := by
  by_cases h : (xs.filter fun x => decide (x.id = k)) = []
  · rw [h]; exact ⟨rfl, by decide⟩
  · exact hd _ (List.mem_filter.1 (bestR_mem h)).1

set_option maxHeartbeats 800000 in
theorem rec_newest (k : Int) (p : Option Addr) (cap : Nat) (xs : List RcV) (w0 : World) (hx : Rd w0 p (xs.flatMap encR)) (hlen : xs.length ≤ 1048576) (hd : ∀ x ∈ xs, Rd w0 x.d.p (x.d.bs.flatMap encB) ∧ x.d.bs.length ≤ 140737488355328) : C Try.prog 18 [.int .u64 k, .slice p xs.length cap] w0 fun v w' => ∃ q c g b, v = .tuple ⟨[.agg ⟨rcV (bestR (xs.filter fun x => decide (x.id = k))).rc q (bestR (xs.filter fun x => decide (x.id = k))).rc.bs.length c⟩, .bool (decide (0 < (xs.filter fun x => decide (x.id = k)).length))]⟩ ∧ Acc 5 1 q (bestR (xs.filter fun x => decide (x.id = k))).rc.bs.length c ((bestR (xs.filter fun x => decide (x.id = k))).rc.bs.flatMap encB) g b ∧ Mem w0 w' No [(g, b)] := by
  have hfe : (xs.filter fun x => !(fun x => decide (x.id ≠ k)) x) = (xs.filter fun x => decide (x.id = k)) := by congr 1; funext x; by_cases h : x.id = k <;> simp [h]
  obtain ⟨hBd, hBl⟩ := bestR_rd (k := k) hd
  have hfl : (xs.filter fun x => decide (x.id = k)).length ≤ xs.length := List.length_filter_le _ _
  refine C_of Try.func18 rfl rfl rfl fun κ hret hnorm => ?_
  have hm := Mem.start w0
  refine HW_seq rfl ?_
  refine HW_text (.act 0 (.act 1 (.pure 2 .done))) (by kernel_rfl) ?_
  refine a_box rfl rfl rfl rfl hm trivial fun m1 w hg_m1 hm hh => ?_
  refine a_alloc rfl rfl z31 hm trivial fun m2 w hg_m2 hm hh => ?_
  refine rw_p rfl rfl (y_assign rfl) ?_
  refine rw_done ?_
  refine gn_sq ?_
  refine HW_seq rfl ?_
  refine HW_text (.pure 0 (.act 1 (.pure 2 (.act 3 (.act 4 (.pure 5 (.pure 6 (.pure 7 (.act 8 (.act 9 (.pure 10 .done))))))))))) (by kernel_rfl) ?_
  refine rw_p rfl rfl (y_move rfl) ?_
  refine a_call rfl rfl rfl go35 (clone_r p cap xs _ (hx.ext0 hm.to) (by omega)) fun v w hR => ?_
  obtain ⟨p_s, cap_s, g_s, b_s, rfl, ha_s, hmc⟩ := hR
  refine ⟨trivial, ?_⟩
  have hg_s : b_s.real = true → _ := fun hr => (hmc.fresh _ List.mem_cons_self hr).resolve_left id
  replace hm := hm.callN hmc
  refine rw_p rfl rfl (y_func rfl rfl) ?_
  refine a_call rfl rfl rfl go34 (del_r p_s cap_s xs g_s b_s 36 [.pointer (some ⟨m1, 0, none⟩)] (fun x => decide (x.id ≠ k)) _ ha_s (fun hr => hm.getR (k := 0) rfl hr) (by omega) go36 (fun x w1 hE => rec_newest1 x k m1 w1 ((hE.same m1 ((Array.getElem?_eq_some_iff.1 (hm.get (k := 2) rfl)).1) (hm.neB 2 0 rfl rfl rfl)).trans (hm.get (k := 2) rfl)))) fun v w hR => ?_
  obtain ⟨b_s, rfl, ha_s, hmc⟩ := hR
  refine ⟨trivial, ?_⟩
  replace hm := hm.callB 0 rfl hmc
  simp only [hfe] at ha_s ⊢
  refine a_call rfl rfl rfl go33 (rec_greatest p_s cap_s (xs.filter fun x => decide (x.id = k)) _ (ha_s.rd hm 0 rfl) (by omega)) fun v w hR => ?_
  obtain ⟨rfl, hE⟩ := hR
  refine ⟨trivial, ?_⟩
  replace hm := hm.ext hE
  refine rw_p rfl rfl (y_move rfl) ?_
  refine rw_p rfl rfl (y_extract rfl rfl) ?_
  refine rw_p rfl rfl (y_extract rfl rfl) ?_
  refine a_alloc rfl rfl z31 hm trivial fun m3 w hg_m3 hm hh => ?_
  refine a_store rfl rfl rfl rfl sz31 rfl hm 0 rfl rfl fun w hm => ?_
  refine rw_p rfl rfl (y_assign rfl) ?_
  refine rw_done ?_
  refine gn_sq ?_
  refine HW_seq rfl ?_
  refine HW_text (.pure 0 (.pure 1 (.act 2 (.pure 3 (.act 4 .done))))) (by kernel_rfl) ?_
  refine rw_p rfl rfl (y_fieldAddr rfl fo31_4) ?_
  refine rw_p rfl rfl (y_load rfl sc23 (hm.nt 0 rfl) rfl) ?_
  refine a_call rfl rfl rfl go37 (clone_b (bestR (xs.filter fun x => decide (x.id = k))).d.p (bestR (xs.filter fun x => decide (x.id = k))).d.cap (bestR (xs.filter fun x => decide (x.id = k))).d.bs _ (hBd.ext0 hm.to) (by omega)) fun v w hR => ?_
  obtain ⟨p_z, cap_z, g_z, b_z, rfl, ha_z, hmc⟩ := hR
  refine ⟨trivial, ?_⟩
  have hg_z : b_z.real = true → _ := fun hr => (hmc.fresh _ List.mem_cons_self hr).resolve_left id
  replace hm := hm.callN hmc
  refine rw_p rfl rfl (y_fieldAddr rfl fo31_4) ?_
  refine a_store rfl rfl rfl rfl sz23 rfl hm 1 rfl rfl fun w hm => ?_
  refine rw_done ?_
  refine gn_sq ?_
  refine HW_seq rfl ?_
  refine HW_text (.pure 0 (.pure 1 (.act 2 (.pure 3 .done)))) (by kernel_rfl) ?_
  refine rw_p rfl rfl (y_loadA (s := 5) (vs := [_, _, _, _, _]) rfl ag31 (hm.nt 1 rfl) rfl) ?_
  refine rw_p rfl rfl (y_move rfl) ?_
  refine a_store rfl rfl rfl rfl sz31 rfl hm 3 rfl rfl fun w hm => ?_
  refine rw_p rfl rfl (y_assign rfl) ?_
  refine rw_done ?_
  refine gn_sq ?_
  refine HW_ret rfl ?_
  refine toR (fin hret rfl (.cell rfl (run_loadVar_a (vs := [_, _, _, _, _]) ag31 (hm.get (k := 3) rfl) rfl) (.tmp rfl .nil)) .more ?_)
  exact ⟨p_z, cap_z, g_z, b_z, rfl, ha_z, (hm.pick [0] rfl)⟩

end Go.Proofs.Ytlgkhajmjgepaaa
