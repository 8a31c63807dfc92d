/- Plain definitions: commands. -/
import Derived.Test.YtlgkhajmjgepaaaPlC
namespace Go.Pl
set_option linter.unusedVariables false
set_option linter.unusedSimpArgs false
/-- a command: kind, target's and source's offset, length, data -/
structure Cm where
  k : Int
  to : Int
  fr : Int
  ln : Int
  bs : List UInt8
def okCm (c : Cm) : Prop := I64 c.k ∧ I64 c.to ∧ I64 c.fr ∧ I64 c.ln
def clen (c : Cm) : Int := if c.k = 1 then c.ln else c.bs.length
def csrc (c : Cm) : Int × Int := if c.k = 1 then (c.fr, c.ln) else (0, 0)
theorem clen_i64 {c : Cm} (h : okCm c) (hl : c.bs.length ≤ 9223372036854775807) : I64 (clen c) := by
  have := h.2.2.2
  unfold clen
  split
  · exact this
  · exact ⟨by omega, by omega⟩
def ccheck (c : Cm) : Int :=
  if c.k ≠ 1 ∧ c.k ≠ 2 then 11 else if clen c = 0 then 7 else if valid c.to (clen c) = false then 2 else if c.k = 1 ∧ (0 < c.bs.length ∨ valid c.fr c.ln = false) then 2 else if c.k = 2 ∧ (c.fr ≠ 0 ∨ c.ln ≠ 0) then 2 else 0
def csame (a b : Cm) : Bool := decide (a.k = b.k) && decide (a.to = b.to) && decide (a.fr = b.fr) && decide (a.ln = b.ln) && decide (a.bs = b.bs)
theorem csame_iff {a b : Cm} : csame a b = true ↔ a = b := by
  cases a; cases b
  simp [csame, and_assoc]
instance : DecidableEq Cm := fun a b => decidable_of_iff (csame a b = true) csame_iff
theorem csame_refl (a : Cm) : csame a a = true := csame_iff.2 rfl
/-! parts -/
def cm0 : Cm := ⟨0, 0, 0, 0, []⟩
def cpart (c : Cm) (a b : Int) : Option Cm :=
  if 0 < b ∧ within c.to (clen c) a b = true then some (if c.k = 1 then ⟨1, a, c.fr + (a - c.to), b, []⟩ else ⟨2, a, 0, 0, (c.bs.drop (a - c.to).toNat).take b.toNat⟩) else none
def cpartD (c : Cm) (a b : Int) : Cm := (cpart c a b).getD cm0
def covl (c : Cm) : Bool := decide (c.k = 1) && (overlap c.fr c.ln c.to c.ln).isSome
/-- what a command without an error has -/
theorem ccheck_ok {c : Cm} (h : ccheck c = 0) : (c.k = 1 ∧ clen c = c.ln ∧ c.bs = [] ∧ 0 ≤ c.fr ∧ c.fr + c.ln ≤ 4611686018427387903 ∨ c.k = 2 ∧ clen c = c.bs.length ∧ c.fr = 0 ∧ c.ln = 0) ∧ 0 ≤ c.to ∧ 0 < clen c ∧ c.to + clen c ≤ 4611686018427387903 := by
  unfold ccheck at h
  split at h
  · cases h
  · split at h
    · cases h
    · split at h
      · cases h
      · split at h
        · cases h
        · split at h
          · cases h
          · rename_i h1 h2 h3 h4 h5
            have hv : valid c.to (clen c) = true := by cases hh : valid c.to (clen c) <;> simp_all
            have hv' := valid_t hv
            refine ⟨?_, by omega⟩
            by_cases hk : c.k = 1
            · left
              have h6 : ¬ (0 < c.bs.length ∨ valid c.fr c.ln = false) := fun hh => h4 ⟨hk, hh⟩
              have h7 : valid c.fr c.ln = true := by cases hh : valid c.fr c.ln <;> simp_all
              have h8 := valid_t h7
              exact ⟨hk, by simp [clen, hk], List.length_eq_zero_iff.1 (by omega), by omega⟩
            · right
              have hk2 : c.k = 2 := by omega
              have h6 : ¬ (c.fr ≠ 0 ∨ c.ln ≠ 0) := fun hh => h5 ⟨hk2, hh⟩
              exact ⟨hk2, by simp [clen, hk], by omega, by omega⟩
theorem ccheck_mk1 {t f l : Int} (h : 0 < l ∧ 0 ≤ t ∧ t + l ≤ 4611686018427387903 ∧ 0 ≤ f ∧ f + l ≤ 4611686018427387903) : ccheck ⟨1, t, f, l, []⟩ = 0 := by
  have h1 : valid t l = true := valid_mk (by omega)
  have h2 : valid f l = true := valid_mk (by omega)
  simp only [ccheck, clen, if_true, h1, h2]
  simp
  omega
theorem ccheck_mk2 {t : Int} {bs : List UInt8} (h : 0 < bs.length ∧ 0 ≤ t ∧ t + bs.length ≤ 4611686018427387903) : ccheck ⟨2, t, 0, 0, bs⟩ = 0 := by
  have h1 : valid t bs.length = true := valid_mk (by omega)
  have h2 : bs ≠ [] := fun e => by subst e; simp at h
  simp [ccheck, clen, h1, h2]
theorem cpart_some {c : Cm} {a b : Int} (h : 0 < b ∧ c.to ≤ a ∧ a + b ≤ c.to + clen c) : cpart c a b = some (if c.k = 1 then ⟨1, a, c.fr + (a - c.to), b, []⟩ else ⟨2, a, 0, 0, (c.bs.drop (a - c.to).toNat).take b.toNat⟩) := by
  unfold cpart
  rw [if_pos ⟨h.1, by simp [within]; omega⟩]
theorem cpart_none {c : Cm} {a b : Int} (h : ¬ (0 < b ∧ c.to ≤ a ∧ a + b ≤ c.to + clen c)) : cpart c a b = none := by
  unfold cpart
  rw [if_neg]
  simp [within]; omega
theorem covl_iff {c : Cm} (h : ccheck c = 0) : covl c = true ↔ c.k = 1 ∧ c.fr < c.to + c.ln ∧ c.to < c.fr + c.ln := by
  have := ccheck_ok h
  simp only [covl, overlap, btw, Bool.and_eq_true, decide_eq_true_eq]
  constructor
  · rintro ⟨h1, h2⟩
    split at h2
    · cases h2
    · exact ⟨h1, by omega⟩
  · rintro ⟨h1, h2⟩
    refine ⟨h1, ?_⟩
    rw [if_neg (by omega)]; rfl
/-- a part of a command without an error has none -/
theorem cpart_check {c : Cm} {a b : Int} (hc : ccheck c = 0) (h : 0 < b ∧ c.to ≤ a ∧ a + b ≤ c.to + clen c) : ccheck (cpartD c a b) = 0 ∧ (cpartD c a b).to = a ∧ clen (cpartD c a b) = b ∧ (cpartD c a b).k = c.k := by
  have hk := ccheck_ok hc
  unfold cpartD
  rw [cpart_some h]
  simp only [Option.getD_some]
  by_cases h1 : c.k = 1
  · rw [if_pos h1]
    refine ⟨ccheck_mk1 (by omega), rfl, rfl, h1.symm⟩
  · rw [if_neg h1]
    have h2 : c.k = 2 := by omega
    have hl : ((c.bs.drop (a - c.to).toNat).take b.toNat).length = b.toNat := by rw [List.length_take, List.length_drop]; omega
    refine ⟨ccheck_mk2 (by rw [hl]; omega), rfl, ?_, h2.symm⟩
    simp only [clen]
    rw [if_neg (by decide), hl]
    omega
theorem covl_ref {c : Cm} (h : ccheck c = 0) : covl c = (decide (c.k = 1) && decide (0 < ((overlap c.fr c.ln c.to (clen c)).getD (0, 0)).2)) := by
  have hk := ccheck_ok h
  unfold covl
  by_cases h1 : c.k = 1
  · have e : clen c = c.ln := by simp [clen, h1]
    rw [e]
    congr 1
    cases ho : overlap c.fr c.ln c.to c.ln with
    | none => rfl
    | some x =>
      obtain ⟨x, y⟩ := x
      have := overlap_some ho
      simp
      omega
  · simp [h1]
theorem len_part {c : Cm} {a b : Int} (hc : ccheck c = 0) (h : 0 < b ∧ c.to ≤ a ∧ a + b ≤ c.to + clen c) : (cpartD c a b).bs.length ≤ 9223372036854775807 := by
  have hk := ccheck_ok hc
  unfold cpartD
  rw [cpart_some h]
  simp only [Option.getD_some]
  split
  · simp
  · simp only [List.length_take, List.length_drop]; omega
theorem okCm_part {c : Cm} {a b : Int} (hk : okCm c) (hc : ccheck c = 0) (h : 0 < b ∧ c.to ≤ a ∧ a + b ≤ c.to + clen c) : okCm (cpartD c a b) := by
  have hk := ccheck_ok hc
  unfold cpartD
  rw [cpart_some h]
  simp only [Option.getD_some]
  split
  · simp only [okCm, I64]; omega
  · simp only [okCm, I64]; omega
theorem halves {bs : List UInt8} {t x l : Int} (h1 : t ≤ x) (h2 : x ≤ t + l) (h3 : l = bs.length) : (bs.drop (t - t).toNat).take (x - t).toNat ++ (bs.drop (x - t).toNat).take (t + l - x).toNat = bs := by
  have e1 : (t - t).toNat = 0 := by omega
  rw [e1, List.drop_zero, List.take_of_length_le (l := bs.drop (x - t).toNat) (by rw [List.length_drop]; omega), List.take_append_drop]
end Go.Pl
