/- Glue for executing commands in place. No condition. -/
import Derived.Test.YtpandemmaoeioaaCxQ
import Derived.Test.YtpandemmaoeioaaPlF
namespace Go.Cx
set_option linter.unusedVariables false
set_option linter.unusedSimpArgs false
open Go
theorem fmB (xs : List UInt8) : xs.flatMap encB = xs.map (fun x => Value.int .u8 x.toNat) := by
  induction xs with
  | nil => rfl
  | cons x r ih => rw [List.flatMap_cons, ih]; rfl
theorem upds_put {xs ys : List UInt8} {o : Nat} (h : o + ys.length ≤ xs.length) : upds (xs.flatMap encB) (o * 1) (ys.flatMap encB) = (Pl.put xs o ys).flatMap encB := by
  rw [fmB, fmB, fmB, Nat.mul_one, upds_eq _ _ _ (by simpa using h)]
  unfold Pl.put
  simp only [List.map_append, List.map_take, List.map_drop, List.length_map]
theorem fold_take {cs : List CmdV} {i : Nat} {c : CmdV} (hi : cs[i]? = some c) (f : List UInt8) : ((cs.map CmdV.cm).take (i + 1)).foldl Pl.ex1 f = Pl.ex1 (((cs.map CmdV.cm).take i).foldl Pl.ex1 f) c.cm := by
  rw [List.take_add_one, List.foldl_append, List.getElem?_map, hi]
  rfl
theorem exs_none {cs : List CmdV} {i : Nat} {c : CmdV} (hi : cs[i]? = some c) {f : List UInt8} (h : Pl.cfits f.length c.cm = false) : Pl.exs f (cs.map CmdV.cm) = none := by
  unfold Pl.exs
  rw [if_neg]
  intro ha
  rw [List.all_eq_true] at ha
  rw [ha c.cm (List.mem_map.2 ⟨c, List.mem_of_getElem? hi, rfl⟩)] at h
  cases h
theorem exs_some {cs : List CmdV} {f : List UInt8} (h : ∀ (j : Nat) c, j < cs.length → cs[j]? = some c → Pl.cfits f.length c.cm = true) : (∀ c ∈ cs, Pl.cfits f.length c.cm = true) ∧ Pl.exs f (cs.map CmdV.cm) = some ((cs.map CmdV.cm).foldl Pl.ex1 f) := by
  have h1 : ∀ c ∈ cs, Pl.cfits f.length c.cm = true := fun c hc => by
    obtain ⟨j, hj⟩ := List.getElem?_of_mem hc
    exact h j c (List.getElem?_eq_some_iff.1 hj).1 hj
  refine ⟨h1, ?_⟩
  unfold Pl.exs
  rw [if_pos]
  rw [List.all_eq_true]
  intro d hd
  obtain ⟨c, hc, rfl⟩ := List.mem_map.1 hd
  exact h1 c hc
theorem fold_len {cs : List CmdV} {f : List UInt8} (hc : ∀ c ∈ cs, Pl.ccheck c.cm = 0) (hf : ∀ c ∈ cs, Pl.cfits f.length c.cm = true) (i : Nat) : (((cs.map CmdV.cm).take i).foldl Pl.ex1 f).length = f.length := by
  refine Pl.exl_length (fun d hd => ?_) ?_
  · obtain ⟨c, hcm, rfl⟩ := List.mem_map.1 (List.mem_of_mem_take hd)
    exact hc c hcm
  · rw [List.all_eq_true]
    intro d hd
    obtain ⟨c, hcm, rfl⟩ := List.mem_map.1 (List.mem_of_mem_take hd)
    exact hf c hcm
theorem cfits_of {n : Int} {c : Pl.Cm} (h1 : c.to + Pl.clen c ≤ n) (h2 : c.k = 1 → c.fr + c.ln ≤ n) : Pl.cfits n c = true := by
  unfold Pl.cfits
  by_cases hk : c.k = 1
  · simp [h1, h2 hk]
  · simp [h1, hk]
theorem cfits_not {n : Int} {c : Pl.Cm} (h : ¬ c.to + Pl.clen c ≤ n ∨ c.k = 1 ∧ ¬ c.fr + c.ln ≤ n) : Pl.cfits n c = false := by
  unfold Pl.cfits
  rcases h with h | ⟨h1, h2⟩
  · simp [h]
  · simp [h1, h2]
theorem cfits_iff {n : Int} {c : Pl.Cm} (h : Pl.cfits n c = true) : c.to + Pl.clen c ≤ n ∧ (c.k = 1 → c.fr + c.ln ≤ n) := by
  simp only [Pl.cfits, Bool.and_eq_true, Bool.or_eq_true, decide_eq_true_eq] at h
  exact ⟨h.1, fun hk => h.2.resolve_left (fun h => h hk)⟩
theorem ex1_copy {F : List UInt8} {c : Pl.Cm} (hk : c.k = 1) : Pl.ex1 F c = Pl.put F c.to.toNat ((F.drop c.fr.toNat).take c.ln.toNat) := by unfold Pl.ex1 Pl.wrt; rw [if_pos hk]
theorem ex1_lit {F : List UInt8} {c : Pl.Cm} (hk : ¬ c.k = 1) : Pl.ex1 F c = Pl.put F c.to.toNat c.bs := by unfold Pl.ex1 Pl.wrt; rw [if_neg hk]
end Go.Cx
