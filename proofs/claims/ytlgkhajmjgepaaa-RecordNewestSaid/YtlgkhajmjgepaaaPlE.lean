/- Plain definitions: the chunks of a command. -/
import Derived.Test.YtlgkhajmjgepaaaPlD
namespace Go.Pl
set_option linter.unusedVariables false
set_option linter.unusedSimpArgs false
def chCount (c : Cm) (s : Int) : Int := if s < 1 then 0 else (clen c - 1) / s + 1
def cdown (c : Cm) : Bool := covl c && decide (c.fr < c.to)
def chIx (c : Cm) (s k : Int) : Int := bif cdown c then chCount c s - 1 - k else k
def chAt (c : Cm) (s k : Int) : Cm := cpartD c (c.to + chIx c s k * s) (min s (clen c - chIx c s k * s))
def chunks (c : Cm) (s : Int) : List Cm := if chCount c s > 1048576 then [] else (List.range (chCount c s).toNat).map fun k => chAt c s (k : Nat)
def chAll (s : Int) (cs : List Cm) : List Cm := cs.flatMap fun c => chunks c s
theorem chCount_pos {c : Cm} {s : Int} (hc : ccheck c = 0) (hs : 1 ≤ s) : chCount c s = (clen c - 1) / s + 1 ∧ 1 ≤ chCount c s ∧ chCount c s ≤ clen c := by
  have hk := ccheck_ok hc
  have h1 := Int.ediv_nonneg (a := clen c - 1) (b := s) (by omega) (by omega)
  have h2 := Int.ediv_le_self s (show 0 ≤ clen c - 1 by omega)
  unfold chCount
  rw [if_neg (by omega)]
  omega
theorem chCount_nonneg {c : Cm} {s : Int} (hc : ccheck c = 0) : 0 ≤ chCount c s ∧ chCount c s ≤ 4611686018427387904 := by
  have hk := ccheck_ok hc
  by_cases hs : 1 ≤ s
  · have := chCount_pos hc hs; omega
  · unfold chCount; rw [if_pos (by omega)]; omega
theorem chIx_bnd {c : Cm} {s k : Int} (hk : 0 ≤ k ∧ k < chCount c s) : 0 ≤ chIx c s k ∧ chIx c s k < chCount c s := by
  unfold chIx
  cases cdown c <;> simp <;> omega
/-- where chunk number k lies -/
theorem chAt_ok {c : Cm} {s k : Int} (hc : ccheck c = 0) (hk : 0 ≤ k ∧ k < chCount c s) :
    1 ≤ s ∧ 0 ≤ chIx c s k ∧ 0 ≤ chIx c s k * s ∧ chIx c s k * s < clen c ∧ chIx c s k * s ≤ 4611686018427387903 ∧ (0 < min s (clen c - chIx c s k * s) ∧ c.to ≤ c.to + chIx c s k * s ∧ c.to + chIx c s k * s + min s (clen c - chIx c s k * s) ≤ c.to + clen c) := by
  have hx := chIx_bnd hk
  have ho := ccheck_ok hc
  have hs : 1 ≤ s := by
    by_cases h : 1 ≤ s
    · exact h
    · unfold chCount at hk; rw [if_pos (by omega)] at hk; omega
  have hp := chCount_pos hc hs
  have h1 : chIx c s k ≤ (clen c - 1) / s := by omega
  have h2 := Int.mul_le_of_le_ediv (by omega) h1
  have h3 : 0 ≤ chIx c s k * s := Int.mul_nonneg (by omega) (by omega)
  omega
theorem chAt_check {c : Cm} {s k : Int} (hc : ccheck c = 0) (hk : 0 ≤ k ∧ k < chCount c s) : ccheck (chAt c s k) = 0 ∧ (chAt c s k).to = c.to + chIx c s k * s ∧ clen (chAt c s k) = min s (clen c - chIx c s k * s) ∧ (chAt c s k).k = c.k :=
  cpart_check hc (chAt_ok hc hk).2.2.2.2.2
theorem chunks_next {c : Cm} {s : Int} {i : Nat} : (List.range (i + 1)).map (fun k => chAt c s (k : Nat)) = (List.range i).map (fun k => chAt c s (k : Nat)) ++ [chAt c s i] := by
  rw [List.range_succ, List.map_append]; rfl
theorem cpartD_len {c : Cm} {a b : Int} (h : c.bs.length ≤ 140737488355328) : (cpartD c a b).bs.length ≤ c.bs.length := by
  unfold cpartD cpart
  split
  · simp only [Option.getD_some]
    split
    · simp
    · simp only [List.length_take, List.length_drop]; omega
  · simp [cm0]
theorem chAll_app (s : Int) (a b : List Cm) : chAll s (a ++ b) = chAll s a ++ chAll s b := by simp [chAll]
theorem chAll_one (s : Int) (c : Cm) : chAll s [c] = chunks c s := by simp [chAll]
theorem chAll_take (s : Int) (cs : List Cm) (k : Nat) : (chAll s (cs.take k)).length ≤ (chAll s cs).length := by
  have e : chAll s cs = chAll s (cs.take k) ++ chAll s (cs.drop k) := by rw [← chAll_app, List.take_append_drop]
  rw [e, List.length_append]; omega
theorem chunks_of {c : Cm} {s : Int} {i : Nat} (h : (i : Int) = if chCount c s > 1048576 then 0 else chCount c s) : (List.range i).map (fun k => chAt c s (k : Nat)) = chunks c s := by
  unfold chunks
  split
  · rename_i h1
    rw [if_pos h1] at h
    have : i = 0 := by omega
    subst this; rfl
  · rename_i h1
    rw [if_neg h1] at h
    have : (chCount c s).toNat = i := by omega
    rw [this]
theorem chunks_len (c : Cm) (s : Int) : (chunks c s).length ≤ 1048576 := by
  unfold chunks
  split
  · simp
  · simp only [List.length_map, List.length_range]; omega
theorem chunks_count {c : Cm} {s : Int} (h0 : 0 ≤ chCount c s) (h : chCount c s ≤ 1048576) : ((chunks c s).length : Int) = chCount c s := by
  unfold chunks
  rw [if_neg (by omega), List.length_map, List.length_range]
  omega
theorem chunks_get {c : Cm} {s : Int} {k : Nat} (h : chCount c s ≤ 1048576) (hk : (k : Int) < chCount c s) : (chunks c s)[k]? = some (chAt c s k) := by
  unfold chunks
  rw [if_neg (by omega), List.getElem?_map, List.getElem?_range (by omega)]
  rfl
/-- the bytes of the first k chunks -/
def chSum (c : Cm) (s : Int) (k : Nat) : Int := bif cdown c then (if k = 0 then 0 else clen c - (chCount c s - k) * s) else min (k * s) (clen c)
theorem chSum_zero {c : Cm} {s : Int} (hc : ccheck c = 0) : chSum c s 0 = 0 := by
  have := ccheck_ok hc
  unfold chSum
  cases cdown c <;> simp <;> omega
theorem chSum_next {c : Cm} {s : Int} {k : Nat} (hc : ccheck c = 0) (hk : (k : Int) < chCount c s) : chSum c s (k + 1) = chSum c s k + clen (chAt c s k) := by
  have h1 := chAt_ok hc (s := s) (k := k) (by omega)
  have h2 := chAt_check hc (s := s) (k := k) (by omega)
  have h3 := chCount_pos hc h1.1
  have ho := ccheck_ok hc
  rw [h2.2.2.1]
  have e0 := Int.ediv_mul_le (clen c - 1) (show s ≠ 0 by omega)
  have e1 := Int.lt_ediv_add_one_mul_self (clen c - 1) (show 0 < s by omega)
  rw [← h3.1] at e1
  have e2 : (chCount c s - 1) * s = chCount c s * s - s := by rw [Int.sub_mul]; omega
  have e3 : ((clen c - 1) / s) = chCount c s - 1 := by omega
  rw [e3, e2] at e0
  unfold chSum
  unfold chIx at h1 ⊢
  cases hd : cdown c with
  | true =>
    simp only [hd, cond_true] at h1 ⊢
    have e4 : (chCount c s - 1 - (k : Int)) * s = chCount c s * s - s - k * s := by rw [Int.sub_mul, Int.sub_mul]; omega
    have e5 : (chCount c s - ((k + 1 : Nat) : Int)) * s = chCount c s * s - k * s - s := by rw [Int.sub_mul]; push_cast; rw [Int.add_mul]; omega
    have e6 : (chCount c s - (k : Int)) * s = chCount c s * s - k * s := by rw [Int.sub_mul]
    rw [if_neg (by omega), e5, e4]
    by_cases h0 : k = 0
    · subst h0; simp; omega
    · rw [if_neg h0, e6]
      have e7 : s ≤ (k : Int) * s := by
        have : 1 * s ≤ (k : Int) * s := Int.mul_le_mul_of_nonneg_right (by omega) (by omega)
        omega
      omega
  | false =>
    simp only [hd, cond_false] at h1 ⊢
    have e5 : ((k + 1 : Nat) : Int) * s = k * s + s := by push_cast; rw [Int.add_mul]; omega
    rw [e5]
    omega
theorem chSum_end {c : Cm} {s : Int} {k : Nat} (hc : ccheck c = 0) (hs : 1 ≤ s) (hk : (k : Int) = chCount c s) : chSum c s k = clen c := by
  have h3 := chCount_pos hc hs
  have e1 := Int.lt_ediv_add_one_mul_self (clen c - 1) (show 0 < s by omega)
  rw [← h3.1] at e1
  unfold chSum
  cases cdown c with
  | true =>
    simp only [cond_true]
    rw [if_neg (by omega), hk]; simp
  | false =>
    simp only [cond_false]
    rw [hk]; omega
theorem chSum_bnd {c : Cm} {s : Int} {k : Nat} (hc : ccheck c = 0) (hs : 1 ≤ s) (hk : (k : Int) ≤ chCount c s) : 0 ≤ chSum c s k ∧ chSum c s k ≤ clen c := by
  have ho := ccheck_ok hc
  have h3 := chCount_pos hc hs
  have e0 := Int.ediv_mul_le (clen c - 1) (show s ≠ 0 by omega)
  have e3 : ((clen c - 1) / s) = chCount c s - 1 := by omega
  rw [e3] at e0
  unfold chSum
  cases cdown c with
  | true =>
    simp only [cond_true]
    split
    · omega
    · have h4 : 0 ≤ (chCount c s - (k : Int)) * s := Int.mul_nonneg (by omega) (by omega)
      have h5 : (chCount c s - (k : Int)) * s ≤ (chCount c s - 1) * s := Int.mul_le_mul_of_nonneg_right (by omega) (by omega)
      omega
  | false =>
    simp only [cond_false]
    have : 0 ≤ (k : Int) * s := Int.mul_nonneg (by omega) (by omega)
    omega
theorem chAt_fr {c : Cm} {s k : Int} (hc : ccheck c = 0) (hk : 0 ≤ k ∧ k < chCount c s) (h1 : c.k = 1) : (chAt c s k).fr - c.fr = (chAt c s k).to - c.to := by
  have h := chAt_ok hc hk
  unfold chAt cpartD
  rw [cpart_some h.2.2.2.2.2, if_pos h1]
  simp only [Option.getD_some]
  omega
theorem chAll_bnd {s : Int} : ∀ {cs : List Cm}, (∀ c ∈ cs, ccheck c = 0 ∧ chCount c s ≤ 300) → (chAll s cs).length ≤ 300 * cs.length
  | [], _ => by simp [chAll]
  | c :: r, h => by
    have h1 := h c (by simp)
    have h2 := chCount_nonneg (s := s) h1.1
    have h3 := chunks_count (c := c) (s := s) h2.1 (by omega)
    have h4 := chAll_bnd (s := s) (cs := r) fun d hd => h d (by simp [hd])
    have e : chAll s (c :: r) = chunks c s ++ chAll s r := by simp [chAll]
    rw [e, List.length_append, List.length_cons]
    omega
theorem clen_bs {c : Cm} (h : ccheck c = 0) : (c.bs.length : Int) ≤ 4611686018427387903 := by
  have := ccheck_ok h
  rcases this.1 with ⟨_, _, h3, _⟩ | ⟨_, h3, _⟩
  · rw [h3]; simp
  · omega
end Go.Pl
