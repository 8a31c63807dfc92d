/- Contracts of functions of the program: what each returns. Conditions: the hypotheses of each theorem. -/
import Derived.Test.YtcngaknlagocdaaChkC
set_option linter.unusedVariables false
set_option linter.unusedSimpArgs false
namespace Go.Proofs.Ytcngaknlagocdaa
open Go Go.Cx

theorem go20 : isGo Try.prog 20 = true := by kernel_rfl

theorem ch_split (c : Pl.Cm) (p : Option Addr) (cap : Nat) (s : Int) (w0 : World) (hb : SB.ok w0 ⟨p, cap, c.bs⟩) (hl : c.bs.length ≤ 140737488355328) (hc : Pl.ccheck c = 0) (hs : Pl.I64 s)  : C Try.prog 11 [.agg ⟨cmV c p c.bs.length cap⟩, .int .i64 s] w0 fun v w' => ∃ (xs : List CmdV) (p : Option Addr) (n cap g : Nat) (b : Blk) (B : List (Nat × Blk)), v = .slice p n cap ∧ Acc 24 5 p n cap (xs.flatMap encC) g b ∧ xs.map CmdV.cm = (Pl.chunks c s) ∧ (∀ x ∈ xs, Held B 5 x.d) ∧ Mem w0 w' No ((g, b) :: B) := by
  refine C_of Try.func11 rfl rfl rfl fun κ hret hnorm => ?_
  have hm := Mem.start w0
  refine HW_seq rfl ?_
  refine HW_text (.act 0 (.pure 1 .done)) (by kernel_rfl) ?_
  refine a_box rfl rfl rfl rfl hm trivial fun m1 w hg_m1 hm hh => ?_
  refine rw_p rfl rfl (y_assign rfl) ?_
  refine rw_done ?_
  refine gn_sq ?_
  refine HW_seq rfl ?_
  refine HW_text (.pure 0 (.pure 1 (.act 2 (.act 3 (.pure 4 .done))))) (by kernel_rfl) ?_
  refine rw_p rfl rfl (y_move rfl) ?_
  refine rw_p rfl rfl (y_loadA (s := 5) (vs := [_, _, _, _, _]) rfl ag24 (hm.nt 0 rfl) rfl) ?_
  refine a_buildSlice (l := [_, _, _, _, _]) rfl rfl sl27 z24 rfl rfl rfl rfl rfl rfl rfl hm trivial fun m2 w hg_m2 hm hh => ?_
  refine a_call rfl rfl rfl go20 (ch_all s _ 1 [mkC c p cap] _ (Rd.row0 (hm.get (k := 0) rfl)) (by simp only [List.mem_singleton]; rintro _ rfl; exact ⟨hc, hb.ext hm.to, hl⟩) hs (by simp) (by simp only [List.map_cons, List.map_nil, mkC_cm, Pl.chAll_one]; exact Pl.chunks_len c s)) fun v w hR => ?_
  obtain ⟨xs_t, p_t, n_t, cap_t, g_t, b_t, B_t, rfl, ha_t, hx_t, hh_t, hmc⟩ := hR
  refine ⟨trivial, ?_⟩
  replace hm := hm.callT1 hmc
  obtain rfl := ha_t.lenE encC_len (by decide)
  refine rw_p rfl rfl (y_assign rfl) ?_
  refine rw_done ?_
  refine gn_sq ?_
  refine HW_ret rfl ?_
  refine toR (fin hret rfl (.tmp rfl .nil) .one ?_)
  exact ⟨xs_t, _, _, _, _, _, B_t, rfl, ha_t, by rw [hx_t]; simp only [List.map_cons, List.map_nil, mkC_cm, Pl.chAll_one], hh_t, (hm.pickT [0] 3 rfl)⟩

end Go.Proofs.Ytcngaknlagocdaa
