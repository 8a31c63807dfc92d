/- Plain law of a journal on a device that may crash. No condition. -/
import Derived.Test.YthailbggeafckaaGreatPlK
namespace Go.Pl
set_option linter.unusedVariables false
set_option linter.unusedSimpArgs false
/-- every byte of h is that of f, or that of bs which are being written at a -/
def MixB (f : List UInt8) (a : Nat) (bs h : List UInt8) : Prop := h.length = f.length ∧ ∀ j, h[j]? = f[j]? ∨ (a ≤ j ∧ j < a + bs.length ∧ h[j]? = bs[j - a]?)
def GoodW (sz : Nat) (f : List UInt8) (a : Nat) (bs : List UInt8) (c : Wr) : Prop := ∀ k, k < sz → c.2[k]? = f[c.1 * sz + k]? ∨ (a ≤ c.1 * sz + k ∧ c.1 * sz + k < a + bs.length ∧ c.2[k]? = bs[c.1 * sz + k - a]?)
theorem MixB.refl (f : List UInt8) (a : Nat) (bs : List UInt8) : MixB f a bs f := ⟨rfl, fun _ => .inl rfl⟩
theorem MixB.putS {sz a cnt : Nat} {f bs h : List UInt8} {c : Wr} (hm : MixB f a bs h) (hg : GoodW sz f a bs c) (hf : f.length = cnt * sz) (hc : c.1 < cnt) (hl : c.2.length = sz) : MixB f a bs (Pl.putS sz h c) := by
  have hse := sec_le (sz := sz) hc
  refine ⟨(putS_len (hm.1.trans hf) hc hl).trans hm.1, fun j => ?_⟩
  unfold Pl.putS
  rw [put_get (by rw [hl, hm.1, hf]; exact hse), hl]
  split
  · rename_i hj
    have := hg (j - c.1 * sz) (by omega)
    rw [show c.1 * sz + (j - c.1 * sz) = j by omega] at this
    exact this
  · exact hm.2 j
theorem MixB.pers {sz a cnt : Nat} {f bs : List UInt8} {keep : Nat → Bool} (hf : f.length = cnt * sz) : ∀ (l : List Wr) (k : Nat) (h : List UInt8), MixB f a bs h → (∀ c ∈ l, GoodW sz f a bs c ∧ c.1 < cnt ∧ c.2.length = sz) → MixB f a bs (Pl.pers sz keep k h l)
  | [], _, h, hm, _ => hm
  | c :: r, k, h, hm, hl => by
    have hc := hl c (by simp)
    unfold Pl.pers
    cases keep k with
    | false => exact MixB.pers hf r (k + 1) h hm fun d hd => hl d (by simp [hd])
    | true => exact MixB.pers hf r (k + 1) _ (hm.putS hc.1 hf hc.2.1 hc.2.2) fun d hd => hl d (by simp [hd])
theorem MixB.contents {D : Dv} {a : Nat} {bs : List UInt8} (h : okDv D) (hg : ∀ c ∈ D.ca, GoodW D.sz D.dk a bs c) : MixB D.dk a bs (Pl.contents D) := by
  have := MixB.pers (keep := fun _ => true) h.len D.ca 0 D.dk (MixB.refl _ _ _) fun c hc => ⟨hg c hc, (h.ca c hc).1, (h.ca c hc).2⟩
  rw [pers_all] at this
  exact this
/-- writing on a device that may crash: it is written, or the device is down and the bytes are mixed -/
theorem wrS_gen (a : Nat) (bs : List UInt8) : ∀ (n i : Nat) (D : Dv), okDv D → D.dn = false → i + n ≤ D.cnt → D.ca.length + n ≤ 1000000000 → (∀ c ∈ D.ca, GoodW D.sz D.dk a bs c) →
    ((wrS a bs n i D).1 = 0 ∧ (wrS a bs n i D).2.dn = false ∧ (wrS a bs n i D).2.dk = D.dk ∧ (∀ j, (Pl.contents (wrS a bs n i D).2)[j]? = if (i * D.sz ≤ j ∧ j < (i + n) * D.sz) ∧ (a ≤ j ∧ j < a + bs.length) then bs[j - a]? else (Pl.contents D)[j]?)) ∨
    ((wrS a bs n i D).1 = 18 ∧ (wrS a bs n i D).2.dn = true ∧ (wrS a bs n i D).2.ca = [] ∧ MixB D.dk a bs (wrS a bs n i D).2.dk)
  | 0, i, D, h, hd, hi, hl, hg => .inl ⟨rfl, hd, rfl, fun j => by simp only [wrS, Nat.add_zero]; rw [if_neg (by omega)]⟩
  | n + 1, i, D, h, hd, hi, hl, hg => by
    obtain ⟨x, hx⟩ : ∃ x, secX D.sz (rdS D (i : Int)) a bs i = x := ⟨_, rfl⟩
    have hc : codeAt D (i : Int) = 0 := by unfold codeAt; rw [if_neg (by simp [hd]), if_neg (by omega)]
    have hxl : x.length = D.sz := by rw [← hx, secX_len]
    have hcl := contents_len h
    have hse := sec_le (sz := D.sz) (show i < D.cnt by omega)
    have hmx := MixB.contents h hg
    have hrd : ∀ k, k < D.sz → (rdS D (i : Int))[k]? = (contents D)[i * D.sz + k]? := fun k hk => by
      unfold rdS
      rw [List.getElem?_take, if_pos hk, List.getElem?_drop, Int.toNat_natCast]
    have hgx : GoodW D.sz D.dk a bs (i, x) := fun k hk => by
      show x[k]? = D.dk[i * D.sz + k]? ∨ _
      rw [← hx, secX_get hk (rdS_len h (by omega))]
      split
      · rename_i hr; exact .inr ⟨hr.1, hr.2, rfl⟩
      · rw [hrd k hk]; exact hmx.2 _
    have hga : ∀ c ∈ (wAdd D (i : Int) x).ca, GoodW D.sz D.dk a bs c := fun c hc => by
      rcases List.mem_append.1 (show c ∈ D.ca ++ [((i : Int).toNat, x)] from hc) with h1 | h1
      · exact hg c h1
      · rw [List.mem_singleton.1 h1]; exact hgx
    have hokA := ok_add h hc hxl (by omega)
    have e0 : wrS a bs (n + 1) i D = if wCode D (i : Int) x ≠ 0 then (wCode D (i : Int) x, wDv D (i : Int) x) else wrS a bs n (i + 1) (wDv D (i : Int) x) := by
      simp only [wrS]
      rw [hx, if_neg (by omega)]
    rw [e0, wCode_cr hc hxl]
    by_cases hw : D.wr = 0
    · rw [if_pos hw, if_pos (by decide), wDv_cr hc hxl hw]
      refine .inr ⟨rfl, rfl, rfl, ?_⟩
      show MixB D.dk a bs (pers D.sz (keepB D.kp) 0 D.dk (D.ca ++ [((i : Int).toNat, x)]))
      exact MixB.pers h.len _ _ _ (MixB.refl _ _ _) fun c hc => ⟨hga c hc, (hokA.ca c hc).1, (hokA.ca c hc).2⟩
    · rw [if_neg hw, if_neg (by decide)]
      have hok := ok_write (i := (i : Int)) (b := x) h (by omega)
      have hd1 : (wDv D (i : Int) x).dn = false ∧ (wDv D (i : Int) x).dk = D.dk ∧ (wDv D (i : Int) x).ca = D.ca ++ [((i : Int).toNat, x)] ∧ (wDv D (i : Int) x).sz = D.sz ∧ (wDv D (i : Int) x).cnt = D.cnt := by
        rcases (show D.wr < 0 ∨ 0 < D.wr by omega) with h9 | h9
        · rw [wDv_off hc hxl h9]; exact ⟨hd, rfl, rfl, rfl, rfl⟩
        · rw [wDv_on hc hxl h9]; exact ⟨hd, rfl, rfl, rfl, rfl⟩
      have hce : contents (wDv D (i : Int) x) = put (contents D) (i * D.sz) x := by
        unfold contents
        rw [hd1.2.2.1, hd1.2.1, hd1.2.2.2.1, List.foldl_append]
        rfl
      generalize hD1 : wDv D (i : Int) x = D1 at hok hd1 hce ⊢
      have ih := wrS_gen a bs n (i + 1) D1 hok hd1.1 (by rw [hd1.2.2.2.2]; omega) (by rw [hd1.2.2.1, List.length_append]; simp only [List.length_cons, List.length_nil]; omega) (by rw [hd1.2.2.1, hd1.2.1, hd1.2.2.2.1]; exact hga)
      rw [hd1.2.1, hd1.2.2.2.1] at ih
      rcases ih with ⟨i1, i2, i3, i4⟩ | ih
      · refine .inl ⟨i1, i2, i3, fun j => ?_⟩
        rw [i4 j, hce, put_get (by rw [hxl, hcl]; exact hse), hxl]
        have e1 : (i + 1) * D.sz = i * D.sz + D.sz := by rw [Nat.add_mul, Nat.one_mul]
        have e2 : (i + (n + 1)) * D.sz = (i + 1 + n) * D.sz := by rw [show i + (n + 1) = i + 1 + n by omega]
        have e3 : i * D.sz + D.sz ≤ (i + 1 + n) * D.sz := by rw [← e1]; exact Nat.mul_le_mul_right _ (by omega)
        rw [e2]
        by_cases c1 : (i + 1) * D.sz ≤ j ∧ j < (i + 1 + n) * D.sz
        · by_cases c2 : a ≤ j ∧ j < a + bs.length
          · rw [if_pos ⟨c1, c2⟩, if_pos ⟨by omega, c2⟩]
          · rw [if_neg (fun e => c2 e.2), if_neg (by omega), if_neg (fun e => c2 e.2)]
        · rw [if_neg (fun e => c1 e.1)]
          by_cases c3 : i * D.sz ≤ j ∧ j < i * D.sz + D.sz
          · rw [if_pos c3, ← hx, secX_get (by omega) (rdS_len h (by omega)), show i * D.sz + (j - i * D.sz) = j by omega]
            by_cases c2 : a ≤ j ∧ j < a + bs.length
            · rw [if_pos c2, if_pos ⟨by omega, c2⟩]
            · rw [if_neg c2, if_neg (fun e => c2 e.2), hrd _ (by omega)]
              congr 1; omega
          · rw [if_neg c3, if_neg (fun e => by omega)]
      · exact .inr ih
/-! ### Appending -/
def acc (b : Int) (r : Rc) : Prop := rright r = true ∧ (r.bs.length : Int) ≤ b
structure JAp (D : Dv) (f N : Nat) (S : Jn) (r : Rc) (E : Dv) : Prop where
  sz : E.sz = D.sz
  cnt : E.cnt = D.cnt
  dn : E.dn = false
  ca : E.ca = []
  ok : okDv E
  dk : ∀ j, E.dk[j]? = if jat D f N (jslotN S) ≤ j ∧ j < jat D f N (jslotN S) + (renc r).length then (renc r)[j - jat D f N (jslotN S)]? else D.dk[j]?
structure JCr (D : Dv) (f N : Nat) (S : Jn) (r : Rc) (E : Dv) : Prop where
  sz : E.sz = D.sz
  cnt : E.cnt = D.cnt
  ca : E.ca = []
  ok : okDv E
  dk : MixB D.dk (jat D f N (jslotN S)) (renc r) E.dk
theorem japp_no {D : Dv} {f N : Nat} {b : Int} {S : Jn} {r : Rc} (h : ¬ acc b r) : japp D f N b S r = (2, D, S) := if_neg h
theorem japp_gen {D : Dv} {f N : Nat} {b : Int} {S : Jn} {r : Rc} (h : okDv D) (hd : D.dn = false) (hca : D.ca = []) (h2 : f + 2 * N ≤ D.cnt) (hb : b + 44 ≤ (N : Int) * (D.sz : Int)) (ha : acc b r) :
    ((japp D f N b S r).1 = 0 ∧ (japp D f N b S r).2.2 = ⟨IntKind.u64.wrap (S.nx + 1), true, r⟩ ∧ JAp D f N S r (japp D f N b S r).2.1) ∨
    ((japp D f N b S r).1 = 18 ∧ (japp D f N b S r).2.2 = S ∧ JCr D f N S r (japp D f N b S r).2.1) := by
  have hEl := renc_len r
  have hcast : ((N * D.sz : Nat) : Int) = (N : Int) * (D.sz : Int) := Int.natCast_mul N D.sz
  have ha2 := ha.2
  have hon : onD D ((jat D f N (jslotN S) : Nat) : Int) ((renc r).length : Int) = true := jon h h2 (jslot_lt S) (by omega)
  have ho := onD_iff.1 hon
  have hcz := h.max
  have hcd : D.cnt ≤ D.cnt * D.sz := Nat.le_mul_of_pos_right _ h.sz
  have hcn := s_cnt (sz := D.sz) (a := jat D f N (jslotN S)) (b := (renc r).length) (cnt := D.cnt) h.sz (by omega) h.cnt
  have g := wrS_gen (jat D f N (jslotN S)) (renc r) (sN D.sz (jat D f N (jslotN S)) (renc r).length) (sF D.sz (jat D f N (jslotN S)) (renc r).length) D h hd hcn (by rw [hca]; simp only [List.length_nil]; omega) (by rw [hca]; intro c hc; cases hc)
  have k := wrS_ok (jat D f N (jslotN S)) (renc r) (sN D.sz (jat D f N (jslotN S)) (renc r).length) (sF D.sz (jat D f N (jslotN S)) (renc r).length) D h (by rw [hca]; simp only [List.length_nil]; omega)
  have e : japp D f N b S r = jgo D f N S r := if_pos ha
  rw [e]
  unfold jgo
  generalize hW : jwr D f N S r = W
  unfold jwr at hW
  rw [hW] at g k
  obtain ⟨c, E⟩ := W
  simp only at g k ⊢
  rcases g with ⟨g1, g2, g3, g4⟩ | ⟨g1, g2, g3, g4⟩
  · left
    have hfc : fCode E = 0 := by unfold fCode; rw [g2]; rfl
    have hfd : fDv E = { persist E (fun _ => true) with sF := inc E.sF } := by unfold fDv; rw [g2]; rfl
    have hof := ok_flush k.1
    rw [if_neg (by omega), if_neg (by omega)]
    refine ⟨rfl, rfl, ?_, ?_, ?_, ?_, hof, fun j => ?_⟩
    · rw [hfd]; exact k.2.1
    · rw [hfd]; exact k.2.2.1
    · rw [hfd]; exact g2
    · rw [hfd]; rfl
    · have e1 : (fDv E).dk = contents E := by rw [hfd]; exact pers_all _ _ _ _
      have e2 : contents D = D.dk := by unfold contents; rw [hca]; rfl
      rw [show (fDv E).dk = contents E from e1, g4 j, e2]
      have f1 := s_first (sz := D.sz) (a := jat D f N (jslotN S)) (b := (renc r).length) h.sz
      have f2 := s_last (sz := D.sz) (a := jat D f N (jslotN S)) (b := (renc r).length) h.sz
      by_cases c1 : jat D f N (jslotN S) ≤ j ∧ j < jat D f N (jslotN S) + (renc r).length
      · rw [if_pos ⟨by omega, c1⟩, if_pos c1]
      · rw [if_neg (fun e => c1 e.2), if_neg c1]
  · right
    subst g1
    rw [if_pos (by decide)]
    exact ⟨rfl, rfl, k.2.1, k.2.2.1, g3, k.1, g4⟩
theorem jat_two {D : Dv} {f N i : Nat} (hi : i < 2) : jat D f N i = f * D.sz + i * (N * D.sz) := by
  unfold jat
  rw [Nat.add_mul, Nat.mul_assoc]
end Go.Pl
