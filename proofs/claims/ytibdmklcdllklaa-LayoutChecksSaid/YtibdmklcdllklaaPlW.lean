/- Plain law of bytes on devices: what is read and written, sector by sector. No condition. -/
import Derived.Test.YtibdmklcdllklaaPlV
import Derived.Test.YtibdmklcdllklaaPlB
namespace Go.Pl
set_option linter.unusedVariables false
set_option linter.unusedSimpArgs false
def onD (D : Dv) (a b : Int) : Bool := valid a b && decide (a + b ≤ ((D.cnt * D.sz : Nat) : Int))
def rdCode (D : Dv) (a b : Int) : Int := if onD D a b = false then 2 else if 0 < b ∧ D.dn = true then 18 else 0
def rdB (D : Dv) (a b : Int) : List UInt8 := if rdCode D a b = 0 then ((contents D).drop a.toNat).take b.toNat else []
theorem onD_iff {D : Dv} {a b : Int} : onD D a b = true ↔ 0 ≤ a ∧ 0 ≤ b ∧ b ≤ 4611686018427387903 - a ∧ a + b ≤ ((D.cnt * D.sz : Nat) : Int) := by
  unfold onD
  simp only [Bool.and_eq_true, decide_eq_true_eq, valid_iff]
  omega
/-- the first sector of an extent, and how many there are -/
def sF (sz a b : Nat) : Nat := if b = 0 then 0 else a / sz
def sN (sz a b : Nat) : Nat := if b = 0 then 0 else (a + b - 1) / sz - a / sz + 1
theorem secs_nat {sz a b : Nat} (hs : 1 ≤ sz) (h : a + b ≤ 4611686018427387903) : secs (sz : Int) (a : Int) (b : Int) = (((sF sz a b : Nat) : Int), ((sN sz a b : Nat) : Int)) := by
  have hv : valid (a : Int) (b : Int) = true := valid_mk (by omega)
  unfold secs sF sN
  by_cases hb : b = 0
  · rw [if_pos (.inr (.inr (by omega))), if_pos hb, if_pos hb]; rfl
  · rw [if_neg (by rw [hv]; simp; omega), if_neg hb, if_neg hb]
    have hle : a / sz ≤ (a + b - 1) / sz := Nat.div_le_div_right (by omega)
    have e1 : (a : Int) / (sz : Int) = ((a / sz : Nat) : Int) := by norm_cast
    have e2 : ((a : Int) + (b : Int) - 1) / (sz : Int) = (((a + b - 1) / sz : Nat) : Int) := by
      rw [show (a : Int) + (b : Int) - 1 = ((a + b - 1 : Nat) : Int) by omega]; norm_cast
    rw [e1, e2]
    generalize a / sz = x at hle ⊢
    generalize (a + b - 1) / sz = y at hle ⊢
    simp only [Prod.mk.injEq, true_and]
    omega
/-- the sectors in between -/
theorem s_in {sz a b i : Nat} (hs : 1 ≤ sz) (h1 : sF sz a b ≤ i) (h2 : i < sF sz a b + sN sz a b) : 0 < b ∧ i * sz < a + b ∧ a < (i + 1) * sz := by
  unfold sF at h1 h2
  unfold sN at h2
  by_cases hb : b = 0
  · simp only [if_pos hb] at h2; omega
  · simp only [if_neg hb] at h1 h2
    have hle : a / sz ≤ (a + b - 1) / sz := Nat.div_le_div_right (by omega)
    have hi : i ≤ (a + b - 1) / sz := by omega
    have h3 : i * sz ≤ a + b - 1 := Nat.le_trans (Nat.mul_le_mul_right _ hi) (Nat.div_mul_le_self _ _)
    have h4 : a < (i + 1) * sz := by
      have := Nat.lt_div_mul_add (a := a) (b := sz) (by omega)
      have h5 : (a / sz + 1) * sz ≤ (i + 1) * sz := Nat.mul_le_mul_right _ (by omega)
      rw [Nat.add_mul, Nat.one_mul] at h5
      omega
    omega
theorem s_first {sz a b : Nat} (hs : 1 ≤ sz) : sF sz a b * sz ≤ a := by
  unfold sF
  split
  · omega
  · exact Nat.div_mul_le_self _ _
theorem s_last {sz a b : Nat} (hs : 1 ≤ sz) : a + b ≤ (sF sz a b + sN sz a b) * sz ∨ b = 0 := by
  unfold sF sN
  by_cases hb : b = 0
  · exact .inr hb
  · left
    rw [if_neg hb, if_neg hb]
    have hle : a / sz ≤ (a + b - 1) / sz := Nat.div_le_div_right (by omega)
    have := Nat.lt_div_mul_add (a := a + b - 1) (b := sz) (by omega)
    rw [show a / sz + ((a + b - 1) / sz - a / sz + 1) = (a + b - 1) / sz + 1 by omega, Nat.add_mul, Nat.one_mul]
    omega
theorem s_cnt {sz a b cnt : Nat} (hs : 1 ≤ sz) (h : a + b ≤ cnt * sz) (hc : 1 ≤ cnt) : sF sz a b + sN sz a b ≤ cnt := by
  rcases Nat.lt_or_ge cnt (sF sz a b + sN sz a b) with hlt | hge
  · exfalso
    by_cases hb : b = 0
    · unfold sF sN at hlt; rw [if_pos hb, if_pos hb] at hlt; omega
    · have hN : 0 < sN sz a b := by unfold sN; rw [if_neg hb]; omega
      have h1 := (s_in (a := a) (b := b) hs (i := sF sz a b + sN sz a b - 1) (by omega) (by omega)).2.1
      have h2 : cnt * sz ≤ (sF sz a b + sN sz a b - 1) * sz := Nat.mul_le_mul_right _ (by omega)
      omega
  · exact hge
/-- the part of an extent that belongs to a sector -/
def pO (sz a i : Nat) : Nat := max a (i * sz)
def pL (sz a b i : Nat) : Nat := min (a + b) (i * sz + sz) - max a (i * sz)
theorem part_eq {sz a b i : Nat} (hs : 1 ≤ sz) (h1 : sF sz a b ≤ i) (h2 : i < sF sz a b + sN sz a b) : overlap (a : Int) (b : Int) ((i * sz : Nat) : Int) (sz : Int) = some (((pO sz a i : Nat) : Int), ((pL sz a b i : Nat) : Int)) := by
  obtain ⟨h3, h4, h5⟩ := s_in hs h1 h2
  rw [Nat.add_mul, Nat.one_mul] at h5
  unfold overlap btw pO pL
  rw [if_neg (by omega)]
  simp only [Option.some.injEq, Prod.mk.injEq]
  omega
theorem part_bnd {sz a b i : Nat} (hs : 1 ≤ sz) (h1 : sF sz a b ≤ i) (h2 : i < sF sz a b + sN sz a b) : a ≤ pO sz a i ∧ i * sz ≤ pO sz a i ∧ 1 ≤ pL sz a b i ∧ pO sz a i + pL sz a b i ≤ a + b ∧ pO sz a i + pL sz a b i ≤ i * sz + sz := by
  obtain ⟨h3, h4, h5⟩ := s_in hs h1 h2
  rw [Nat.add_mul, Nat.one_mul] at h5
  unfold pO pL
  omega
/-! ### Reading -/
/-- how much has been read ahead of sector i -/
def rL (sz a b i : Nat) : Nat := min b (i * sz - a)
theorem rL_next {sz a b i : Nat} (hs : 1 ≤ sz) (h1 : sF sz a b ≤ i) (h2 : i < sF sz a b + sN sz a b) : rL sz a b i = pO sz a i - a ∧ rL sz a b (i + 1) = rL sz a b i + pL sz a b i := by
  obtain ⟨h3, h4, h5⟩ := s_in hs h1 h2
  unfold rL pO pL
  rw [Nat.add_mul, Nat.one_mul] at *
  omega
theorem rL_first {sz a b : Nat} (hs : 1 ≤ sz) : rL sz a b (sF sz a b) = 0 := by
  have := s_first (b := b) hs (a := a)
  unfold rL; omega
theorem rL_last {sz a b : Nat} (hs : 1 ≤ sz) : rL sz a b (sF sz a b + sN sz a b) = b := by
  have := s_last (a := a) (b := b) hs
  unfold rL; omega
theorem sector_part {f : List UInt8} {sz i o n : Nat} (ho : i * sz ≤ o) (h : o + n ≤ i * sz + sz) : ((((f.drop (i * sz)).take sz).drop (o - i * sz)).take n) = (f.drop o).take n := by
  apply List.ext_getElem?
  intro j
  rw [List.getElem?_take, List.getElem?_take]
  split
  · rw [List.getElem?_drop, List.getElem?_drop, List.getElem?_take, if_pos (by omega), List.getElem?_drop]
    congr 1; omega
  · rfl
theorem part_of {f : List UInt8} {a b o n : Nat} (ho : a ≤ o) (h : o + n ≤ a + b) : ((((f.drop a).take b).drop (o - a)).take n) = (f.drop o).take n := by
  apply List.ext_getElem?
  intro j
  rw [List.getElem?_take, List.getElem?_take]
  split
  · rw [List.getElem?_drop, List.getElem?_drop, List.getElem?_take, if_pos (by omega), List.getElem?_drop]
    congr 1; omega
  · rfl
/-- what has been read: L bytes of X, and zero bytes -/
def half (X : List UInt8) (b L : Nat) : List UInt8 := X.take L ++ List.replicate (b - L) 0
theorem half_len {X : List UInt8} {b L : Nat} (h : X.length = b) (hL : L ≤ b) : (half X b L).length = b := by
  unfold half; rw [List.length_append, List.length_take, List.length_replicate]; omega
theorem half_put {X : List UInt8} {b L n : Nat} (h : X.length = b) (hL : L + n ≤ b) : put (half X b L) L ((X.drop L).take n) = half X b (L + n) := by
  unfold put half
  have h1 : (X.take L).length = L := by rw [List.length_take]; omega
  have h2 : ((X.drop L).take n).length = n := by rw [List.length_take, List.length_drop]; omega
  have e1 : (X.take L ++ List.replicate (b - L) (0 : UInt8)).take L = X.take L := List.take_left' h1
  have e2 : (X.take L ++ List.replicate (b - L) (0 : UInt8)).drop (L + n) = List.replicate (b - (L + n)) 0 := by
    rw [List.drop_append, h1, List.drop_of_length_le (by rw [h1]; omega), List.nil_append, List.drop_replicate, show b - L - (L + n - L) = b - (L + n) by omega]
  rw [e1, h2, e2, List.take_add]
/-- the next part of what is read -/
theorem half_next {f : List UInt8} {sz a b i : Nat} (hs : 1 ≤ sz) (hf : a + b ≤ f.length) (h1 : sF sz a b ≤ i) (h2 : i < sF sz a b + sN sz a b) :
    put (half ((f.drop a).take b) b (rL sz a b i)) (pO sz a i - a) ((((f.drop (i * sz)).take sz).drop (pO sz a i - i * sz)).take (pL sz a b i)) = half ((f.drop a).take b) b (rL sz a b (i + 1)) := by
  obtain ⟨b1, b2, b3, b4, b5⟩ := part_bnd (b := b) hs h1 h2
  obtain ⟨n1, n2⟩ := rL_next hs h1 h2
  rw [part_of b2 b5, ← part_of b1 b4, ← n1, n2]
  exact half_put (by rw [List.length_take, List.length_drop]; omega) (by unfold rL at *; omega)
theorem i64wP {x : Int} (h1 : -9223372036854775808 ≤ x) (h2 : x ≤ 9223372036854775807) : IntKind.i64.wrap x = x := Cx.i64w h1 h2
/-! ### Writing -/
def secX (sz : Nat) (old : List UInt8) (a : Nat) (bs : List UInt8) (i : Nat) : List UInt8 := (List.range sz).map fun k => if a ≤ i * sz + k ∧ i * sz + k < a + bs.length then bs.getD (i * sz + k - a) 0 else old.getD k 0
theorem secX_len (sz : Nat) (old : List UInt8) (a : Nat) (bs : List UInt8) (i : Nat) : (secX sz old a bs i).length = sz := by simp [secX]
theorem secX_get {sz : Nat} {old : List UInt8} {a : Nat} {bs : List UInt8} {i k : Nat} (hk : k < sz) (ho : old.length = sz) : (secX sz old a bs i)[k]? = if a ≤ i * sz + k ∧ i * sz + k < a + bs.length then bs[i * sz + k - a]? else old[k]? := by
  unfold secX
  rw [List.getElem?_map, List.getElem?_range hk]
  simp only [Option.map_some]
  split
  · rename_i h
    rw [List.getD_eq_getElem?_getD, List.getElem?_eq_getElem (by omega)]; rfl
  · rw [List.getD_eq_getElem?_getD, List.getElem?_eq_getElem (by omega)]; rfl
/-- a sector into which its part of the bytes is copied -/
theorem secX_put {sz a i : Nat} {old bs : List UInt8} (hs : 1 ≤ sz) (ho : old.length = sz) (h1 : sF sz a bs.length ≤ i) (h2 : i < sF sz a bs.length + sN sz a bs.length) :
    put old (pO sz a i - i * sz) ((bs.drop (pO sz a i - a)).take (pL sz a bs.length i)) = secX sz old a bs i := by
  obtain ⟨b1, b2, b3, b4, b5⟩ := part_bnd hs h1 h2
  have hl : ((bs.drop (pO sz a i - a)).take (pL sz a bs.length i)).length = pL sz a bs.length i := by rw [List.length_take, List.length_drop]; omega
  have hfit : pO sz a i - i * sz + ((bs.drop (pO sz a i - a)).take (pL sz a bs.length i)).length ≤ old.length := by rw [hl, ho]; omega
  apply List.ext_getElem?
  intro k
  by_cases hk : k < sz
  · rw [put_get hfit, secX_get hk ho, hl]
    have hc : (pO sz a i - i * sz ≤ k ∧ k < pO sz a i - i * sz + pL sz a bs.length i) ↔ (a ≤ i * sz + k ∧ i * sz + k < a + bs.length) := by
      unfold pO pL at *; omega
    by_cases h : a ≤ i * sz + k ∧ i * sz + k < a + bs.length
    · rw [if_pos (hc.2 h), if_pos h, List.getElem?_take, if_pos (by have := hc.2 h; omega), List.getElem?_drop]
      congr 1
      have := hc.2 h
      omega
    · rw [if_neg (fun e => h (hc.1 e)), if_neg h]
  · rw [List.getElem?_eq_none (by rw [put_length hfit, ho]; omega), List.getElem?_eq_none (by rw [secX_len]; omega)]
def wrS (a : Nat) (bs : List UInt8) : Nat → Nat → Dv → Int × Dv
  | 0, _, D => (0, D)
  | n + 1, i, D => if codeAt D (i : Int) ≠ 0 then (codeAt D (i : Int), D) else
      if wCode D (i : Int) (secX D.sz (rdS D (i : Int)) a bs i) ≠ 0 then (wCode D (i : Int) (secX D.sz (rdS D (i : Int)) a bs i), wDv D (i : Int) (secX D.sz (rdS D (i : Int)) a bs i)) else
      wrS a bs n (i + 1) (wDv D (i : Int) (secX D.sz (rdS D (i : Int)) a bs i))
def wrAll (D : Dv) (a : Int) (bs : List UInt8) : Int × Dv :=
  if onD D a (bs.length : Int) = false then (2, D) else wrS a.toNat bs (sN D.sz a.toNat bs.length) (sF D.sz a.toNat bs.length) D
theorem wDv_sz (D : Dv) (i : Int) (b : List UInt8) : (wDv D i b).sz = D.sz ∧ (wDv D i b).cnt = D.cnt ∧ (wDv D i b).ca.length ≤ D.ca.length + 1 := by
  unfold wDv
  split
  · exact ⟨rfl, rfl, by omega⟩
  · split
    · exact ⟨rfl, rfl, by simp [wAdd]⟩
    · split
      · exact ⟨rfl, rfl, by simp [wAdd]⟩
      · exact ⟨rfl, rfl, by simp [persist]⟩
theorem wrS_ok (a : Nat) (bs : List UInt8) : ∀ (n i : Nat) (D : Dv), okDv D → D.ca.length + n ≤ 1000000000 → okDv (wrS a bs n i D).2 ∧ (wrS a bs n i D).2.sz = D.sz ∧ (wrS a bs n i D).2.cnt = D.cnt ∧ (wrS a bs n i D).2.ca.length ≤ D.ca.length + n
  | 0, i, D, h, _ => ⟨h, rfl, rfl, by simp [wrS]⟩
  | n + 1, i, D, h, hl => by
    have h1 := ok_write (i := (i : Int)) (b := secX D.sz (rdS D (i : Int)) a bs i) h (by omega)
    have h2 := wDv_sz D (i : Int) (secX D.sz (rdS D (i : Int)) a bs i)
    simp only [wrS]
    split
    · exact ⟨h, rfl, rfl, by simp only; omega⟩
    · split
      · exact ⟨h1, h2.1, h2.2.1, by simp only; omega⟩
      · have ih := wrS_ok a bs n (i + 1) _ h1 (by omega)
        rw [h2.1, h2.2.1] at ih
        exact ⟨ih.1, ih.2.1, ih.2.2.1, by omega⟩
theorem rdS_len {D : Dv} (h : okDv D) {i : Nat} (hi : i < D.cnt) : (rdS D (i : Int)).length = D.sz := by
  have hc : (contents D).length = D.dk.length := fold_len h.len h.ca
  have := sec_le (sz := D.sz) hi
  have hl := h.len
  unfold rdS
  rw [List.length_take, List.length_drop, Int.toNat_natCast]
  omega
/-- writing on a device that does not crash -/
theorem wrS_up (a : Nat) (bs : List UInt8) : ∀ (n i : Nat) (D : Dv), okDv D → D.dn = false → D.wr < 0 → i + n ≤ D.cnt → D.ca.length + n ≤ 1000000000 → 0 ≤ D.sW → D.sW + n ≤ 4611686018427387903 →
    (wrS a bs n i D).1 = 0 ∧ (wrS a bs n i D).2.dn = false ∧ (wrS a bs n i D).2.wr < 0 ∧ (wrS a bs n i D).2.dk = D.dk ∧ (wrS a bs n i D).2.sW = D.sW + n ∧
    ∀ j, (contents (wrS a bs n i D).2)[j]? = if (i * D.sz ≤ j ∧ j < (i + n) * D.sz) ∧ (a ≤ j ∧ j < a + bs.length) then bs[j - a]? else (contents D)[j]?
  | 0, i, D, h, hd, hw, hi, hl, _, _ => ⟨rfl, hd, hw, rfl, by simp [wrS], fun j => by simp only [wrS, Nat.add_zero]; rw [if_neg (by omega)]⟩
  | n + 1, i, D, h, hd, hw, hi, hl, h0, hs => by
    obtain ⟨x, hx⟩ : ∃ x, secX D.sz (rdS D (i : Int)) a bs i = x := ⟨_, rfl⟩
    have hc : codeAt D (i : Int) = 0 := by unfold codeAt; rw [if_neg (by simp [hd]), if_neg (by omega)]
    have hxl : x.length = D.sz := by rw [← hx, secX_len]
    have hwc : wCode D (i : Int) x = 0 := by rw [wCode_cr hc hxl, if_neg (by omega)]
    have hwd : wDv D (i : Int) x = wAdd D (i : Int) x := wDv_off hc hxl hw
    have hok := ok_add h hc hxl (by omega)
    have hinc : inc D.sW = D.sW + 1 := by unfold inc; exact i64wP (by omega) (by omega)
    have hcl : (contents D).length = D.cnt * D.sz := by rw [show (contents D).length = D.dk.length from fold_len h.len h.ca, h.len]
    have hse := sec_le (sz := D.sz) (show i < D.cnt by omega)
    have hce : contents (wAdd D (i : Int) x) = put (contents D) (i * D.sz) x := by
      show (D.ca ++ [((i : Int).toNat, x)]).foldl (putS D.sz) D.dk = _
      rw [List.foldl_append]; rfl
    have ih := wrS_up a bs n (i + 1) (wAdd D (i : Int) x) hok hd hw (by show i + 1 + n ≤ D.cnt; omega) (by show (D.ca ++ [((i : Int).toNat, x)]).length + n ≤ _; rw [List.length_append, List.length_singleton]; omega) (by show 0 ≤ inc D.sW; omega) (by show inc D.sW + n ≤ _; omega)
    have e : wrS a bs (n + 1) i D = wrS a bs n (i + 1) (wAdd D (i : Int) x) := by
      simp only [wrS]
      rw [if_neg (by omega), hx, if_neg (by omega), hwd]
    rw [e]
    refine ⟨ih.1, ih.2.1, ih.2.2.1, ih.2.2.2.1, by rw [ih.2.2.2.2.1]; show inc D.sW + _ = _; omega, fun j => ?_⟩
    rw [ih.2.2.2.2.2 j, hce, show (wAdd D (i : Int) x).sz = D.sz from rfl, put_get (by rw [hxl, hcl]; exact hse), hxl]
    have e1 : (i + 1) * D.sz = i * D.sz + D.sz := by rw [Nat.add_mul, Nat.one_mul]
    have e2 : (i + (n + 1)) * D.sz = (i + 1 + n) * D.sz := by rw [show i + (n + 1) = i + 1 + n by omega]
    have e3 : i * D.sz + D.sz ≤ (i + 1 + n) * D.sz := by rw [← e1]; exact Nat.mul_le_mul_right _ (by omega)
    rw [e2]
    by_cases c1 : (i + 1) * D.sz ≤ j ∧ j < (i + 1 + n) * D.sz
    · by_cases c2 : a ≤ j ∧ j < a + bs.length
      · rw [if_pos ⟨c1, c2⟩, if_pos ⟨by omega, c2⟩]
      · rw [if_neg (fun e => c2 e.2), if_neg (by omega), if_neg (fun e => c2 e.2)]
    · rw [if_neg (fun e => c1 e.1)]
      by_cases c3 : i * D.sz ≤ j ∧ j < i * D.sz + D.sz
      · rw [if_pos c3, ← hx, secX_get (by omega) (rdS_len h (by omega)), show i * D.sz + (j - i * D.sz) = j by omega]
        by_cases c2 : a ≤ j ∧ j < a + bs.length
        · rw [if_pos c2, if_pos ⟨by omega, c2⟩]
        · rw [if_neg c2, if_neg (fun e => c2 e.2)]
          unfold rdS
          rw [List.getElem?_take, if_pos (by omega), List.getElem?_drop, Int.toNat_natCast]
          congr 1; omega
      · rw [if_neg c3, if_neg (fun e => by omega)]
theorem contents_len {D : Dv} (h : okDv D) : (contents D).length = D.cnt * D.sz := by rw [show (contents D).length = D.dk.length from fold_len h.len h.ca, h.len]
/-- all of it, on a device that does not crash -/
theorem wrAll_up {D : Dv} {a : Nat} {bs : List UInt8} (h : okDv D) (hd : D.dn = false) (hw : D.wr < 0) (hon : onD D (a : Int) (bs.length : Int) = true) (hl : D.ca.length + D.cnt ≤ 1000000000) (h0 : 0 ≤ D.sW) (hs : D.sW + D.cnt ≤ 4611686018427387903) :
    (wrAll D (a : Int) bs).1 = 0 ∧ (wrAll D (a : Int) bs).2.dn = false ∧ (wrAll D (a : Int) bs).2.dk = D.dk ∧ (wrAll D (a : Int) bs).2.sW = D.sW + (sN D.sz a bs.length : Nat) ∧ (wrAll D (a : Int) bs).2.sz = D.sz ∧ (wrAll D (a : Int) bs).2.cnt = D.cnt ∧ okDv (wrAll D (a : Int) bs).2 ∧ (wrAll D (a : Int) bs).2.ca.length ≤ D.ca.length + D.cnt ∧
    ∀ j, (contents (wrAll D (a : Int) bs).2)[j]? = if a ≤ j ∧ j < a + bs.length then bs[j - a]? else (contents D)[j]? := by
  have ho := onD_iff.1 hon
  have hcn := s_cnt (sz := D.sz) (a := a) (b := bs.length) (cnt := D.cnt) h.sz (by omega) h.cnt
  have hN : sN D.sz a bs.length ≤ D.cnt := by omega
  have u := wrS_up a bs (sN D.sz a bs.length) (sF D.sz a bs.length) D h hd hw hcn (by omega) h0 (by omega)
  have k := wrS_ok a bs (sN D.sz a bs.length) (sF D.sz a bs.length) D h (by omega)
  unfold wrAll
  rw [if_neg (by simp [hon]), Int.toNat_natCast]
  refine ⟨u.1, u.2.1, u.2.2.2.1, u.2.2.2.2.1, k.2.1, k.2.2.1, k.1, by omega, fun j => ?_⟩
  rw [u.2.2.2.2.2 j]
  by_cases c : a ≤ j ∧ j < a + bs.length
  · have h1 := s_first (sz := D.sz) (a := a) (b := bs.length) h.sz
    have h2 := s_last (sz := D.sz) (a := a) (b := bs.length) h.sz
    rw [if_pos ⟨by omega, c⟩, if_pos c]
  · rw [if_neg (fun e => c e.2), if_neg c]
end Go.Pl
