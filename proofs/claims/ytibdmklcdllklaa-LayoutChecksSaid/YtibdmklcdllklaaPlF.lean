/- Plain laws of executing commands in place, with no program in sight. No condition. -/
import Derived.Test.YtibdmklcdllklaaPlE
namespace Go.Pl
set_option linter.unusedVariables false
/-- bytes put over others, from o on -/
def put (f : List UInt8) (o : Nat) (d : List UInt8) : List UInt8 := f.take o ++ d ++ f.drop (o + d.length)
/-- what a command writes -/
def wrt (f : List UInt8) (c : Cm) : List UInt8 := if c.k = 1 then (f.drop c.fr.toNat).take c.ln.toNat else c.bs
def ex1 (f : List UInt8) (c : Cm) : List UInt8 := put f c.to.toNat (wrt f c)
def cfits (n : Int) (c : Cm) : Bool := decide (c.to + clen c ≤ n) && (decide (c.k ≠ 1) || decide (c.fr + c.ln ≤ n))
def exs (f : List UInt8) (cs : List Cm) : Option (List UInt8) := if cs.all (cfits f.length) then some (cs.foldl ex1 f) else none
theorem put_length {f d : List UInt8} {o : Nat} (h : o + d.length ≤ f.length) : (put f o d).length = f.length := by
  unfold put; simp only [List.length_append, List.length_take, List.length_drop]; omega
theorem put_get {f d : List UInt8} {o : Nat} (h : o + d.length ≤ f.length) (i : Nat) : (put f o d)[i]? = if o ≤ i ∧ i < o + d.length then d[i - o]? else f[i]? := by
  unfold put
  by_cases h1 : i < o
  · rw [if_neg (by omega), List.append_assoc, List.getElem?_append_left (by rw [List.length_take]; omega), List.getElem?_take, if_pos h1]
  · by_cases h2 : i < o + d.length
    · rw [if_pos (by omega), List.append_assoc, List.getElem?_append_right (by rw [List.length_take]; omega), List.getElem?_append_left (by rw [List.length_take]; omega)]
      congr 1; rw [List.length_take]; omega
    · rw [if_neg (by omega), List.getElem?_append_right (by rw [List.length_append, List.length_take]; omega), List.getElem?_drop]
      congr 1; rw [List.length_append, List.length_take]; omega
theorem wrt_length {f : List UInt8} {c : Cm} (hc : ccheck c = 0) (hf : cfits f.length c = true) : ((wrt f c).length : Int) = clen c := by
  have hk := ccheck_ok hc
  simp only [cfits, Bool.and_eq_true, Bool.or_eq_true, decide_eq_true_eq] at hf
  unfold wrt
  split
  · rw [List.length_take, List.length_drop]; omega
  · omega
theorem ex1_length {f : List UInt8} {c : Cm} (hc : ccheck c = 0) (hf : cfits f.length c = true) : (ex1 f c).length = f.length := by
  have hk := ccheck_ok hc
  have hw := wrt_length hc hf
  simp only [cfits, Bool.and_eq_true, Bool.or_eq_true, decide_eq_true_eq] at hf
  exact put_length (by omega)
theorem exl_length : ∀ {cs : List Cm} {f : List UInt8}, (∀ c ∈ cs, ccheck c = 0) → cs.all (cfits f.length) = true → (cs.foldl ex1 f).length = f.length
  | [], f, _, _ => rfl
  | c :: r, f, hc, hf => by
    simp only [List.all_cons, Bool.and_eq_true] at hf
    have h1 := ex1_length (hc c (by simp)) hf.1
    rw [List.foldl_cons, exl_length (fun d hd => hc d (by simp [hd])) (by rw [h1]; exact hf.2), h1]
/-- the bytes W, which belong at A, are written from p up to q -/
def Up (f W : List UInt8) (A p q : Nat) (g : List UInt8) : Prop := g.length = f.length ∧ ∀ i, g[i]? = if A + p ≤ i ∧ i < A + q then W[i - A]? else f[i]?
theorem Up.none (f W : List UInt8) (A p : Nat) : Up f W A p p f := ⟨rfl, fun i => by rw [if_neg (by omega)]⟩
theorem Up.all {f W g : List UInt8} {A : Nat} (h : Up f W A 0 W.length g) (hA : A + W.length ≤ f.length) : g = put f A W := by
  apply List.ext_getElem?
  intro i
  rw [h.2, put_get hA]
  rfl
theorem piece_get {W : List UInt8} {o m j : Nat} : ((W.drop o).take m)[j]? = if j < m then W[o + j]? else none := by
  rw [List.getElem?_take]
  split
  · rw [List.getElem?_drop]
  · rfl
theorem piece_len {W : List UInt8} {o m : Nat} (h : o + m ≤ W.length) : ((W.drop o).take m).length = m := by
  rw [List.length_take, List.length_drop]; omega
theorem Up.up {f W g : List UInt8} {A p o m : Nat} (h : Up f W A p o g) (hp : p ≤ o) (hm : o + m ≤ W.length) (hA : A + W.length ≤ f.length) : Up f W A p (o + m) (put g (A + o) ((W.drop o).take m)) := by
  have hl := piece_len hm
  refine ⟨by rw [put_length (by rw [hl, h.1]; omega), h.1], fun i => ?_⟩
  rw [put_get (by rw [hl, h.1]; omega), hl, h.2]
  by_cases h1 : A + o ≤ i ∧ i < A + o + m
  · rw [if_pos h1, if_pos (by omega), piece_get, if_pos (by omega)]
    congr 1; omega
  · rw [if_neg h1]
    by_cases h2 : A + p ≤ i ∧ i < A + o
    · rw [if_pos h2, if_pos (by omega)]
    · rw [if_neg h2, if_neg (by omega)]
theorem Up.down {f W g : List UInt8} {A q o m : Nat} (h : Up f W A (o + m) q g) (hq : o + m ≤ q) (hm : o + m ≤ W.length) (hA : A + W.length ≤ f.length) : Up f W A o q (put g (A + o) ((W.drop o).take m)) := by
  have hl := piece_len hm
  refine ⟨by rw [put_length (by rw [hl, h.1]; omega), h.1], fun i => ?_⟩
  rw [put_get (by rw [hl, h.1]; omega), hl, h.2]
  by_cases h1 : A + o ≤ i ∧ i < A + o + m
  · rw [if_pos h1, if_pos (by omega), piece_get, if_pos (by omega)]
    congr 1; omega
  · rw [if_neg h1]
    by_cases h2 : A + (o + m) ≤ i ∧ i < A + q
    · rw [if_pos h2, if_pos (by omega)]
    · rw [if_neg h2, if_neg (by omega)]
/-- what a piece of a copy reads, where nothing was written -/
theorem Up.read {f g : List UInt8} {A F N p q o m : Nat} (h : Up f ((f.drop F).take N) A p q g) (ho : o + m ≤ N) (hd : F + o + m ≤ A + p ∨ A + q ≤ F + o ∨ q ≤ p) : (g.drop (F + o)).take m = (((f.drop F).take N).drop o).take m := by
  apply List.ext_getElem?
  intro j
  rw [piece_get, piece_get]
  split
  · rw [h.2, if_neg (by omega), piece_get, if_pos (by omega)]
    congr 1; omega
  · rfl
/-- the fields of a chunk -/
theorem chAt_eq {c : Cm} {s k : Int} (hc : ccheck c = 0) (hk : 0 ≤ k ∧ k < chCount c s) : chAt c s k = if c.k = 1 then ⟨1, c.to + chIx c s k * s, c.fr + chIx c s k * s, min s (clen c - chIx c s k * s), []⟩ else ⟨2, c.to + chIx c s k * s, 0, 0, (c.bs.drop (chIx c s k * s).toNat).take (min s (clen c - chIx c s k * s)).toNat⟩ := by
  have h := (chAt_ok hc hk).2.2.2.2.2
  have e : c.to + chIx c s k * s - c.to = chIx c s k * s := by omega
  unfold chAt cpartD
  rw [cpart_some h, Option.getD_some, e]
theorem covl_not {c : Cm} (hc : ccheck c = 0) (hk : c.k = 1) (h : covl c = false) : c.fr + c.ln ≤ c.to ∨ c.to + c.ln ≤ c.fr := by
  have ho := ccheck_ok hc
  unfold covl at h
  rw [hk] at h
  simp only [decide_true, Bool.true_and] at h
  unfold overlap btw at h
  grind
/-- one chunk's turn -/
theorem ch_step {c : Cm} {s k : Int} {f g : List UInt8} {p q o m : Nat} (hc : ccheck c = 0) (hk : 0 ≤ k ∧ k < chCount c s) (hf : cfits f.length c = true) (ho : (o : Int) = chIx c s k * s) (hm : (m : Int) = min s (clen c - chIx c s k * s)) (h : Up f (wrt f c) c.to.toNat p q g)
    (hd : c.k = 1 → c.fr.toNat + o + m ≤ c.to.toNat + p ∨ c.to.toNat + q ≤ c.fr.toNat + o ∨ q ≤ p) : ex1 g (chAt c s k) = put g (c.to.toNat + o) (((wrt f c).drop o).take m) := by
  have hck := ccheck_ok hc
  have hb := chAt_ok hc hk
  have hw := wrt_length hc hf
  rw [chAt_eq hc hk]
  rw [← ho] at hb hm ⊢
  rw [← hm] at hb ⊢
  unfold ex1
  by_cases h1 : c.k = 1
  · have hW : wrt f c = (f.drop c.fr.toNat).take c.ln.toNat := by unfold wrt; rw [if_pos h1]
    rw [hW] at h
    rw [if_pos h1, hW]
    have e1 : (c.to + (o : Int)).toNat = c.to.toNat + o := by omega
    have e2 : (c.fr + (o : Int)).toNat = c.fr.toNat + o := by omega
    simp only [wrt, e1, e2, Int.toNat_natCast, if_true]
    rw [h.read (by omega) (hd h1)]
  · have hW : wrt f c = c.bs := by unfold wrt; rw [if_neg h1]
    rw [if_neg h1, hW]
    have e1 : (c.to + (o : Int)).toNat = c.to.toNat + o := by omega
    simp only [wrt, e1, Int.toNat_natCast]
    rfl
theorem foldRange {c : Cm} {s : Int} {f : List UInt8} (K : Nat) : ((List.range (K + 1)).map fun k => chAt c s (k : Nat)).foldl ex1 f = ex1 (((List.range K).map fun k => chAt c s (k : Nat)).foldl ex1 f) (chAt c s K) := by
  rw [chunks_next, List.foldl_append]; rfl
theorem count_mul {c : Cm} {s : Int} (hc : ccheck c = 0) (hs : 1 ≤ s) : (chCount c s - 1) * s < clen c ∧ clen c ≤ chCount c s * s := by
  have hk := ccheck_ok hc
  have hp := (chCount_pos hc hs).1
  have h1 := Int.mul_ediv_add_emod (clen c - 1) s
  have h2 := Int.emod_nonneg (clen c - 1) (show s ≠ 0 by omega)
  have h3 := Int.emod_lt_of_pos (clen c - 1) (show 0 < s by omega)
  have e : chCount c s - 1 = (clen c - 1) / s := by omega
  have e2 : chCount c s * s = (chCount c s - 1) * s + s := by rw [Int.sub_mul, Int.one_mul]; omega
  rw [e2, e, Int.mul_comm]
  omega
theorem ch_upward {c : Cm} {s : Int} {f : List UInt8} (hc : ccheck c = 0) (hs : 1 ≤ s) (hf : cfits f.length c = true) (hdn : cdown c = false) : ∀ K : Nat, (K : Int) ≤ chCount c s → Up f (wrt f c) c.to.toNat 0 (min (K * s) (clen c)).toNat (((List.range K).map fun k => chAt c s (k : Nat)).foldl ex1 f)
  | 0, _ => by
    have e : (min (((0 : Nat) : Int) * s) (clen c)).toNat = 0 := by simp; omega
    rw [e]
    exact Up.none _ _ _ _
  | K + 1, hK => by
    have hck := ccheck_ok hc
    have hw := wrt_length hc hf
    have ih := ch_upward hc hs hf hdn K (by omega)
    have hkk : (0 : Int) ≤ (K : Int) ∧ (K : Int) < chCount c s := by omega
    have hb := chAt_ok hc hkk
    have hix : chIx c s K = K := by unfold chIx; rw [hdn]; rfl
    rw [hix] at hb
    obtain ⟨o, ho⟩ : ∃ o : Nat, (K : Int) * s = o := ⟨((K : Int) * s).toNat, by omega⟩
    obtain ⟨m, hm⟩ : ∃ m : Nat, min s (clen c - K * s) = m := ⟨(min s (clen c - K * s)).toNat, by omega⟩
    have e1 : (min ((K : Int) * s) (clen c)).toNat = o := by omega
    have e2 : (((K + 1 : Nat) : Int) * s) = o + s := by rw [Int.natCast_add, Int.add_mul, ho]; simp
    have e3 : (min (((K + 1 : Nat) : Int) * s) (clen c)).toNat = o + m := by rw [e2]; omega
    have hcf := hf
    simp only [cfits, Bool.and_eq_true, Bool.or_eq_true, decide_eq_true_eq] at hcf
    rw [e1] at ih
    rw [e3, foldRange, ch_step hc hkk hf (o := o) (m := m) (by rw [hix, ho]) (by rw [hix, hm]) ih ?_]
    · exact ih.up (by omega) (by omega) (by omega)
    · intro h1
      by_cases hov : covl c = true
      · have : ¬ c.fr < c.to := by
          intro hlt
          unfold cdown at hdn
          rw [hov] at hdn
          simp [hlt] at hdn
        right; left; omega
      · have := covl_not hc h1 (by simpa using hov)
        omega
theorem ch_downward {c : Cm} {s : Int} {f : List UInt8} (hc : ccheck c = 0) (hs : 1 ≤ s) (hf : cfits f.length c = true) (hdn : cdown c = true) : ∀ K : Nat, (K : Int) ≤ chCount c s → Up f (wrt f c) c.to.toNat (min ((chCount c s - K) * s) (clen c)).toNat (clen c).toNat (((List.range K).map fun k => chAt c s (k : Nat)).foldl ex1 f)
  | 0, _ => by
    have hcm := count_mul hc hs
    have e : (min ((chCount c s - ((0 : Nat) : Int)) * s) (clen c)).toNat = (clen c).toNat := by simp only [Int.natCast_zero, Int.sub_zero]; omega
    rw [e]
    exact Up.none _ _ _ _
  | K + 1, hK => by
    have hck := ccheck_ok hc
    have hw := wrt_length hc hf
    have ih := ch_downward hc hs hf hdn K (by omega)
    have hkk : (0 : Int) ≤ (K : Int) ∧ (K : Int) < chCount c s := by omega
    have hb := chAt_ok hc hkk
    have hix : chIx c s K = chCount c s - 1 - K := by unfold chIx; rw [hdn]; rfl
    rw [hix] at hb
    obtain ⟨o, ho⟩ : ∃ o : Nat, (chCount c s - 1 - K) * s = o := ⟨((chCount c s - 1 - K) * s).toNat, by omega⟩
    obtain ⟨m, hm⟩ : ∃ m : Nat, min s (clen c - (chCount c s - 1 - K) * s) = m := ⟨(min s (clen c - (chCount c s - 1 - K) * s)).toNat, by omega⟩
    have e2 : (chCount c s - (K : Int)) * s = o + s := by rw [← ho, Int.sub_mul, Int.sub_mul, Int.sub_mul]; omega
    have e1 : (min ((chCount c s - (K : Int)) * s) (clen c)).toNat = o + m := by rw [e2]; omega
    have e4 : (chCount c s - ((K + 1 : Nat) : Int)) * s = o := by rw [← ho]; congr 1; omega
    have e3 : (min ((chCount c s - ((K + 1 : Nat) : Int)) * s) (clen c)).toNat = o := by rw [e4]; omega
    have hcf := hf
    simp only [cfits, Bool.and_eq_true, Bool.or_eq_true, decide_eq_true_eq] at hcf
    have hlt : c.fr < c.to := by unfold cdown at hdn; simp only [Bool.and_eq_true, decide_eq_true_eq] at hdn; exact hdn.2
    rw [e1] at ih
    rw [e3, foldRange, ch_step hc hkk hf (o := o) (m := m) (by rw [hix, ho]) (by rw [hix, hm]) ih ?_]
    · exact ih.down (by omega) (by omega) (by omega)
    · intro h1
      left; omega
theorem chunks_all {c : Cm} {s n : Int} (hc : ccheck c = 0) (hs : 1 ≤ s) (hn : chCount c s ≤ 1048576) : (chunks c s).all (cfits n) = cfits n c := by
  have hck := ccheck_ok hc
  have hp := chCount_pos hc hs
  have hcm := count_mul hc hs
  have hone : ∀ k : Int, (0 ≤ k ∧ k < chCount c s) → cfits n (chAt c s k) = (decide (c.to + chIx c s k * s + min s (clen c - chIx c s k * s) ≤ n) && (decide (c.k ≠ 1) || decide (c.fr + chIx c s k * s + min s (clen c - chIx c s k * s) ≤ n))) := fun k hk => by
    have h1 := chAt_check hc hk
    unfold cfits
    rw [h1.2.1, h1.2.2.1, h1.2.2.2]
    by_cases hk1 : c.k = 1
    · rw [chAt_eq hc hk, if_pos hk1]
    · simp [hk1]
  rw [Bool.eq_iff_iff, List.all_eq_true]
  unfold chunks
  rw [if_neg (by omega)]
  constructor
  · intro h
    obtain ⟨k, hkk, hix⟩ : ∃ k : Int, (0 ≤ k ∧ k < chCount c s) ∧ chIx c s k = chCount c s - 1 := by
      by_cases hd : cdown c = true
      · exact ⟨0, by omega, by unfold chIx; rw [hd]; simp⟩
      · exact ⟨chCount c s - 1, by omega, by unfold chIx; simp only [Bool.not_eq_true] at hd; rw [hd]; rfl⟩
    have h2 := h (chAt c s k) (List.mem_map.2 ⟨k.toNat, by simp; omega, by rw [Int.toNat_of_nonneg hkk.1]⟩)
    rw [hone k hkk, hix] at h2
    simp only [cfits, Bool.and_eq_true, Bool.or_eq_true, decide_eq_true_eq] at h2 ⊢
    have e2 : chCount c s * s = (chCount c s - 1) * s + s := by rw [Int.sub_mul, Int.one_mul]; omega
    generalize (chCount c s - 1) * s = Z at *
    omega
  · intro h d hd
    obtain ⟨k, hkr, rfl⟩ := List.mem_map.1 hd
    have hkk : (0 : Int) ≤ (k : Int) ∧ (k : Int) < chCount c s := by have := List.mem_range.1 hkr; omega
    have hb := chAt_ok hc hkk
    rw [hone k hkk]
    simp only [cfits, Bool.and_eq_true, Bool.or_eq_true, decide_eq_true_eq] at h ⊢
    omega
/-- the chunks one after the other do what the command does -/
theorem chunks_exs {c : Cm} {s : Int} {f : List UInt8} (hc : ccheck c = 0) (hs : 1 ≤ s) (hn : chCount c s ≤ 1048576) : exs f (chunks c s) = exs f [c] := by
  have hck := ccheck_ok hc
  have hp := chCount_pos hc hs
  have hcm := count_mul hc hs
  unfold exs
  rw [chunks_all hc hs hn]
  have e1 : [c].all (cfits f.length) = cfits f.length c := by simp
  rw [e1]
  by_cases hf : cfits f.length c = true
  · rw [if_pos hf, if_pos hf]
    have hw := wrt_length hc hf
    have hcf := hf
    simp only [cfits, Bool.and_eq_true, Bool.or_eq_true, decide_eq_true_eq] at hcf
    have ec : chunks c s = (List.range (chCount c s).toNat).map fun k => chAt c s (k : Nat) := by unfold chunks; rw [if_neg (by omega)]
    have eN : (((chCount c s).toNat : Nat) : Int) = chCount c s := by omega
    have hU : Up f (wrt f c) c.to.toNat 0 (wrt f c).length ((chunks c s).foldl ex1 f) := by
      rw [ec]
      by_cases hd : cdown c = true
      · have h := ch_downward hc hs hf hd (chCount c s).toNat (by omega)
        rw [eN] at h
        have e3 : (min ((chCount c s - chCount c s) * s) (clen c)).toNat = 0 := by rw [Int.sub_self, Int.zero_mul]; omega
        have e4 : (clen c).toNat = (wrt f c).length := by omega
        rw [e3, e4] at h
        exact h
      · have h := ch_upward hc hs hf (by simpa using hd) (chCount c s).toNat (by omega)
        rw [eN] at h
        have e3 : (min (chCount c s * s) (clen c)).toNat = (wrt f c).length := by omega
        rw [e3] at h
        exact h
    rw [hU.all (by omega)]
    rfl
  · rw [if_neg hf, if_neg hf]
end Go.Pl
