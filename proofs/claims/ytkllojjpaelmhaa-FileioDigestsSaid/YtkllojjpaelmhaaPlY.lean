/- Bytes read piece by piece are the bytes of the extent. No condition. -/
import Derived.Test.YtkllojjpaelmhaaPlW
namespace Go.Pl
set_option linter.unusedVariables false
def hfD (D : Dv) (a b c : Int) (k : Nat) : List UInt8 := ((contents D).drop a.toNat).take ((rest a b c k).1 - a).toNat
theorem code0_of {D : Dv} {a b : Int} (hd : D.dn = false) (hon : onD D a b = true) : rdCode D a b = 0 := by
  unfold rdCode
  rw [hon, if_neg (by decide), if_neg (by rw [hd]; rintro ⟨_, h⟩; cases h)]
theorem dig_next {D : Dv} (h : okDv D) (hd : D.dn = false) {a b c : Int} (hon : onD D a b = true) {n k : Nat} (hn : (n : Int) = pieces b c) (hk : k < n) :
    I64 (piece a b c k).1 ∧ I64 (piece a b c k).2 ∧ rdCode D (piece a b c k).1 (piece a b c k).2 = 0 ∧ hfD D a b c (k + 1) = hfD D a b c k ++ rdB D (piece a b c k).1 (piece a b c k).2 := by
  have hv := onD_iff.1 hon
  have hmx := h.max
  obtain ⟨hc, h0, h1, h2⟩ := pieces_pos hv.2.1 (show (k : Int) < pieces b c by omega)
  have h5 := (rest_lt (o := a)).2 h1
  have h8 := rest_sum a b c k
  have h9 := rest_le (o := a) (i := k) hc hv.2.1
  have hs := rest_succ (o := a) hc h5
  rw [piece_rest h5]
  unfold hfD
  rw [hs]
  generalize rest a b c k = R at h5 h8 h9 ⊢
  obtain ⟨x, y⟩ := R
  simp only at h5 h8 h9 ⊢
  have honp : onD D x (min c y) = true := onD_iff.2 ⟨by omega, by omega, by omega, by omega⟩
  have hc0 := code0_of hd honp
  refine ⟨by unfold I64; omega, by unfold I64; omega, hc0, ?_⟩
  unfold rdB
  rw [if_pos hc0, show (x + min c y - a).toNat = (x - a).toNat + (min c y).toNat by omega, List.take_add, List.drop_drop, show a.toNat + (x - a).toNat = x.toNat by omega]
theorem dig_first {D : Dv} {a b c : Int} (hb : 0 ≤ b) : hfD D a b c 0 = [] := by
  unfold hfD
  rw [rest_zero hb]
  simp
theorem dig_last {D : Dv} (h : okDv D) (hd : D.dn = false) {a b c : Int} (hon : onD D a b = true) (hc : 1 ≤ c) {n : Nat} (hn : (n : Int) = pieces b c) : hfD D a b c n = rdB D a b := by
  have hv := onD_iff.1 hon
  have hmx := h.max
  have he := rest_end (a := a) hv.2.1 hn
  have hc0 := code0_of hd hon
  unfold hfD rdB
  rw [if_pos hc0, he]
  split
  · rename_i h0
    subst h0
    have hb0 : b = 0 := by
      by_cases hb1 : b = 0
      · exact hb1
      exfalso
      have h3 := div_bnd (x := b - 1) (s := c) (by omega) hc
      have h4 : ((0 : Nat) : Int) = if c < 1 ∨ b = 0 ∨ 1048576 ≤ (b - 1) / c then 0 else (b - 1) / c + 1 := hn
      rw [if_neg (by omega)] at h4
      omega
    rw [hb0]
  · rfl
theorem hfD_len {D : Dv} (h : okDv D) (a b c : Int) (k : Nat) : (hfD D a b c k).length ≤ 1048576 := by
  have h1 := contents_len h
  have h2 := h.max
  unfold hfD
  rw [List.length_take, List.length_drop]
  omega
theorem flat_bnd {α : Type} (f : α → List UInt8) (hf : ∀ x, (f x).length ≤ 1048576) : ∀ xs : List α, (xs.flatMap f).length ≤ 1048576 * xs.length
  | [] => by simp
  | x :: xs => by
    have h1 := flat_bnd f hf xs
    have h2 := hf x
    rw [List.flatMap_cons, List.length_append, List.length_cons]
    omega
theorem flat_snoc {α : Type} (f : α → List UInt8) {xs : List α} {i : Nat} {x : α} (h : xs[i]? = some x) : (xs.take (i + 1)).flatMap f = (xs.take i).flatMap f ++ f x := by
  rw [List.take_add_one, h]
  simp
end Go.Pl
