/- What was written is read back. No condition. -/
import Derived.Test.YtkllojjpaelmhaaPlW
namespace Go.Pl
set_option linter.unusedVariables false
theorem rd_back {D E : Dv} {a : Nat} {bs : List UInt8} (hon : onD D (a : Int) (bs.length : Int) = true) (h5 : E.sz = D.sz) (h6 : E.cnt = D.cnt) (hd : E.dn = false)
    (h9 : ∀ j, (contents E)[j]? = if a ≤ j ∧ j < a + bs.length then bs[j - a]? else (contents D)[j]?) : rdCode E (a : Int) (bs.length : Int) = 0 ∧ rdB E (a : Int) (bs.length : Int) = bs := by
  have h1 : onD E (a : Int) (bs.length : Int) = true := by
    unfold onD at hon ⊢
    rw [h5, h6]
    exact hon
  have h0 : rdCode E (a : Int) (bs.length : Int) = 0 := by
    unfold rdCode
    rw [h1, if_neg (by decide), if_neg (by rw [hd]; rintro ⟨_, h⟩; cases h)]
  refine ⟨h0, ?_⟩
  unfold rdB
  rw [if_pos h0, Int.toNat_natCast, Int.toNat_natCast]
  refine List.ext_getElem? fun j => ?_
  rw [List.getElem?_take]
  split
  · rw [List.getElem?_drop, h9, if_pos (by omega), Nat.add_sub_cancel_left]
  · rw [List.getElem?_eq_none (by omega)]
theorem rd_all {D : Dv} (h : okDv D) (hd : D.dn = false) {n : Nat} (hn : D.cnt * D.sz = n) : rdCode D 0 (n : Int) = 0 ∧ rdB D 0 (n : Int) = contents D := by
  have h1 := contents_len h
  have h2 := h.max
  have h3 : onD D 0 (n : Int) = true := onD_iff.2 ⟨Int.le_refl _, by omega, by omega, by omega⟩
  have h0 : rdCode D 0 (n : Int) = 0 := by
    unfold rdCode
    rw [h3, if_neg (by decide), if_neg (by rw [hd]; rintro ⟨_, h⟩; cases h)]
  refine ⟨h0, ?_⟩
  unfold rdB
  rw [if_pos h0, Int.toNat_natCast, show (0 : Int).toNat = 0 from rfl, List.drop_zero, List.take_of_length_le (by omega)]
end Go.Pl
