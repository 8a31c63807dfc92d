/- Plain definitions: sectors and layouts. -/
import Derived.Test.YtlgkhajmjgepaaaPlA
namespace Go.Pl
set_option linter.unusedVariables false
set_option linter.unusedSimpArgs false
theorem div_bnd {x s : Int} (h : 0 ≤ x) (hs : 1 ≤ s) : 0 ≤ x / s ∧ x / s ≤ x := ⟨Int.ediv_nonneg h (by omega), Int.ediv_le_self s h⟩
theorem div_mono {x y s : Int} (h : x ≤ y) (hs : 1 ≤ s) : x / s ≤ y / s := Int.ediv_le_ediv (by omega) h
/-- the sectors of a slot for a record of at most b bytes -/
def slot (s b : Int) : Int := if s < 1 ∨ b < 1 ∨ b > 65536 then 0 else (b + 43) / s + 1
theorem slot_bnd (s b : Int) : 0 ≤ slot s b ∧ slot s b ≤ 65580 := by
  unfold slot
  split
  · omega
  · have := div_bnd (x := b + 43) (s := s) (by omega) (by omega); omega
theorem slot_zero (s b : Int) : slot s b = 0 ↔ s < 1 ∨ b < 1 ∨ b > 65536 := by
  unfold slot
  split
  · rename_i h; simp [h]
  · have := div_bnd (x := b + 43) (s := s) (by omega) (by omega)
    rename_i h
    constructor
    · omega
    · intro h'; exact absurd h' h
/-- the record's size -/
def rsize (b : Int) : Int := if b < 0 ∨ b > 1048576 then 0 else 40 + b + 4
theorem ceil_eq {n s : Int} (hn : 1 ≤ n) (hs : 1 ≤ s) : (n - 1) / s + 1 = if n.tmod s = 0 then n / s else n / s + 1 := by
  rw [Int.tmod_eq_emod_of_nonneg (by omega)]
  have h1 := Int.emod_add_mul_ediv n s
  have h2 := Int.emod_nonneg n (show s ≠ 0 by omega)
  have h3 := Int.emod_lt_of_pos n (show 0 < s by omega)
  split
  · rename_i h0
    have : (n - 1) / s = n / s - 1 := by
      apply Int.le_antisymm
      · have : (n - 1) / s < n / s := Int.ediv_lt_of_lt_mul (by omega) (by rw [Int.mul_comm]; omega)
        omega
      · refine Int.le_ediv_of_mul_le (by omega) ?_
        have : (n / s - 1) * s = s * (n / s) - s := by rw [Int.sub_mul, Int.mul_comm]; omega
        omega
    omega
  · rename_i h0
    have : (n - 1) / s = n / s := by
      apply Int.le_antisymm
      · exact Int.ediv_le_ediv (by omega) (by omega)
      · exact Int.le_ediv_of_mul_le (by omega) (by rw [Int.mul_comm]; omega)
    omega
/-- the sectors that have bytes of an extent -/
def secs (s a b : Int) : Int × Int := if s < 1 ∨ valid a b = false ∨ b = 0 then (0, 0) else (a / s, (a + b - 1) / s - a / s + 1)
theorem secs_bnd (s a b : Int) : 0 ≤ (secs s a b).2 ∧ (secs s a b).2 ≤ 4611686018427387904 ∧ 0 ≤ (secs s a b).1 ∧ (secs s a b).1 ≤ 4611686018427387904 := by
  unfold secs
  split
  · simp
  · rename_i h
    have hv : valid a b = true := by
      cases hh : valid a b with
      | true => rfl
      | false => simp [hh] at h
    have := valid_t hv
    have h1 := div_bnd (x := a) (s := s) (by omega) (by omega)
    have h2 := div_bnd (x := a + b - 1) (s := s) (by omega) (by omega)
    have h3 := div_mono (x := a) (y := a + b - 1) (s := s) (by omega) (by omega)
    simp only
    omega
def okLen (x : Int) : Bool := valid 0 x
theorem okLen_iff {x : Int} : okLen x = true ↔ 0 ≤ x ∧ x ≤ 4611686018427387903 := by simp only [okLen, valid_iff]; omega
/-- the error of a layout for these sizes -/
def layE (s b o n : Int) : Int := if slot s b = 0 then 20 else if okLen o = false ∨ okLen n = false then 2 else 0
def lz (e x : Int) : Int := if e = 0 then x else 0
def layF (s o n : Int) : Int := (secs s 0 (max o n)).2
end Go.Pl
