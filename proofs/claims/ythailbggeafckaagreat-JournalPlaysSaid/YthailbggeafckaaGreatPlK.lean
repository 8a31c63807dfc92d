/- Plain law of formatting the two slots of a journal. No condition. -/
import Derived.Test.YthailbggeafckaaGreatBs2
namespace Go.Pl
set_option linter.unusedVariables false
set_option linter.unusedSimpArgs false
def jz (D : Dv) : List UInt8 := List.replicate D.sz 0
/-- n sectors from number f + i on are zeroed -/
def jfw (f : Nat) : Nat → Nat → Dv → Int × Dv
  | 0, _, D => (0, D)
  | n + 1, i, D => if wCode D ((f + i : Nat) : Int) (jz D) ≠ 0 then (wCode D ((f + i : Nat) : Int) (jz D), wDv D ((f + i : Nat) : Int) (jz D)) else jfw f n (i + 1) (wDv D ((f + i : Nat) : Int) (jz D))
def jfm (D : Dv) (f N : Nat) : Int × Dv := if (jfw f (2 * N) 0 D).1 ≠ 0 then jfw f (2 * N) 0 D else (fCode (jfw f (2 * N) 0 D).2, fDv (jfw f (2 * N) 0 D).2)
theorem contents_add (D : Dv) (i : Int) (b : List UInt8) : contents (wAdd D i b) = put (contents D) (i.toNat * D.sz) b := by
  show (D.ca ++ [(i.toNat, b)]).foldl (putS D.sz) D.dk = _
  rw [List.foldl_append]; rfl
theorem jfw_up (f : Nat) : ∀ (n i : Nat) (D : Dv), okDv D → D.dn = false → D.wr < 0 → f + i + n ≤ D.cnt → D.ca.length + n ≤ 1000000000 → 0 ≤ D.sW → D.sW + n ≤ 4611686018427387903 →
    (jfw f n i D).1 = 0 ∧ (jfw f n i D).2.dn = false ∧ (jfw f n i D).2.wr = D.wr ∧ (jfw f n i D).2.sW = D.sW + n ∧ (jfw f n i D).2.sF = D.sF ∧ (jfw f n i D).2.sz = D.sz ∧ (jfw f n i D).2.cnt = D.cnt ∧ okDv (jfw f n i D).2 ∧ (jfw f n i D).2.ca.length = D.ca.length + n ∧
    ∀ j, (contents (jfw f n i D).2)[j]? = if (f + i) * D.sz ≤ j ∧ j < (f + i + n) * D.sz then some 0 else (contents D)[j]?
  | 0, i, D, h, hd, hw, hi, hl, _, _ => ⟨rfl, hd, rfl, by simp [jfw], rfl, rfl, rfl, h, by simp [jfw], fun j => by simp only [jfw, Nat.add_zero]; rw [if_neg (by omega)]⟩
  | n + 1, i, D, h, hd, hw, hi, hl, h0, hs => by
    obtain ⟨x, hx⟩ : ∃ x, jz D = x := ⟨_, rfl⟩
    have hc : codeAt D ((f + i : Nat) : Int) = 0 := by unfold codeAt; rw [if_neg (by simp [hd]), if_neg (by omega)]
    have hxl : x.length = D.sz := by rw [← hx]; exact List.length_replicate
    have hwc : wCode D ((f + i : Nat) : Int) x = 0 := by rw [wCode_cr hc hxl, if_neg (by omega)]
    have hwd : wDv D ((f + i : Nat) : Int) x = wAdd D ((f + i : Nat) : Int) x := wDv_off hc hxl hw
    have hok := ok_add h hc hxl (by omega)
    have hinc : inc D.sW = D.sW + 1 := by unfold inc; exact i64wP (by omega) (by omega)
    have hcl := contents_len h
    have hse := sec_le (sz := D.sz) (show f + i < D.cnt by omega)
    have hce := contents_add D ((f + i : Nat) : Int) x
    rw [Int.toNat_natCast] at hce
    have hcal : (wAdd D ((f + i : Nat) : Int) x).ca.length = D.ca.length + 1 := by show (D.ca ++ [_]).length = _; rw [List.length_append]; rfl
    have ih := jfw_up f n (i + 1) (wAdd D ((f + i : Nat) : Int) x) hok hd hw (by show f + (i + 1) + n ≤ D.cnt; omega) (by omega) (by show 0 ≤ inc D.sW; omega) (by show inc D.sW + n ≤ _; omega)
    have e : jfw f (n + 1) i D = jfw f n (i + 1) (wAdd D ((f + i : Nat) : Int) x) := by
      simp only [jfw]
      rw [hx, if_neg (by omega), hwd]
    rw [e]
    refine ⟨ih.1, ih.2.1, ih.2.2.1, by rw [ih.2.2.2.1]; show inc D.sW + _ = _; omega, ih.2.2.2.2.1, ih.2.2.2.2.2.1, ih.2.2.2.2.2.2.1, ih.2.2.2.2.2.2.2.1, by rw [ih.2.2.2.2.2.2.2.2.1, hcal]; omega, fun j => ?_⟩
    rw [ih.2.2.2.2.2.2.2.2.2 j, hce, show (wAdd D ((f + i : Nat) : Int) x).sz = D.sz from rfl, put_get (by rw [hxl, hcl]; exact hse), hxl]
    have e1 : (f + (i + 1)) * D.sz = (f + i) * D.sz + D.sz := by rw [← Nat.add_assoc, Nat.add_mul (f + i), Nat.one_mul]
    have e2 : (f + i + (n + 1)) * D.sz = (f + (i + 1) + n) * D.sz := by rw [show f + i + (n + 1) = f + (i + 1) + n by omega]
    have e3 : (f + i) * D.sz + D.sz ≤ (f + (i + 1) + n) * D.sz := by rw [← e1]; exact Nat.mul_le_mul_right _ (by omega)
    rw [e2]
    by_cases c1 : (f + (i + 1)) * D.sz ≤ j ∧ j < (f + (i + 1) + n) * D.sz
    · rw [if_pos c1, if_pos (by omega)]
    · rw [if_neg c1]
      by_cases c3 : (f + i) * D.sz ≤ j ∧ j < (f + i) * D.sz + D.sz
      · rw [if_pos c3, if_pos (by omega), ← hx]
        unfold jz
        rw [List.getElem?_replicate, if_pos (by omega)]
      · rw [if_neg c3, if_neg (by omega)]
/-- what Format leaves behind on a device that does not crash -/
structure JFm (D : Dv) (f N : Nat) (E : Dv) : Prop where
  sz : E.sz = D.sz
  cnt : E.cnt = D.cnt
  dn : E.dn = false
  wr : E.wr = D.wr
  sW : E.sW = D.sW + (2 * N : Nat)
  sF : E.sF = inc D.sF
  ca : E.ca = []
  ok : okDv E
  dk : ∀ j, E.dk[j]? = if f * D.sz ≤ j ∧ j < (f + 2 * N) * D.sz then some 0 else (contents D)[j]?
theorem jfm_up {D : Dv} {f N : Nat} (h : okDv D) (hd : D.dn = false) (hw : D.wr < 0) (h2 : f + 2 * N ≤ D.cnt) (hl : D.ca.length + D.cnt ≤ 1000000000) (h0 : 0 ≤ D.sW) (hs : D.sW + D.cnt ≤ 4611686018427387903) :
    (jfm D f N).1 = 0 ∧ JFm D f N (jfm D f N).2 := by
  have u := jfw_up f (2 * N) 0 D h hd hw (by omega) (by omega) h0 (by omega)
  obtain ⟨u1, u2, u3, u4, u5, u6, u7, u8, u9, u10⟩ := u
  have e : jfm D f N = (0, { persist (jfw f (2 * N) 0 D).2 (fun _ => true) with sF := inc (jfw f (2 * N) 0 D).2.sF }) := by
    unfold jfm
    rw [if_neg (by omega)]
    unfold fCode fDv
    rw [u2, if_neg (by decide), if_neg (by decide)]
  rw [e]
  have hp := ok_persist u8 (fun _ => true)
  refine ⟨rfl, u6, u7, u2, u3, u4, congrArg inc u5, rfl, ⟨hp.sz, hp.len, hp.cnt, hp.max, hp.ca, hp.wr, hp.kp, hp.st⟩, fun j => ?_⟩
  have e1 : (pers (jfw f (2 * N) 0 D).2.sz (fun _ => true) 0 (jfw f (2 * N) 0 D).2.dk (jfw f (2 * N) 0 D).2.ca) = contents (jfw f (2 * N) 0 D).2 := pers_all _ _ _ _
  show (pers (jfw f (2 * N) 0 D).2.sz (fun _ => true) 0 (jfw f (2 * N) 0 D).2.dk (jfw f (2 * N) 0 D).2.ca)[j]? = _
  rw [e1, u10 j, Nat.add_zero]
theorem zero_mg' (k : Nat) (hk : 1 ≤ k) : (rexpect ((List.replicate k (0 : UInt8)).take 40) ⟨0, 0, 0⟩ magic 19).2 = false := by
  rw [List.take_replicate]
  obtain ⟨m, hm⟩ : ∃ m, min 40 k = m + 1 := ⟨min 40 k - 1, by omega⟩
  rw [hm]
  unfold rexpect
  rw [if_neg (by decide), if_pos]
  intro h
  rw [List.length_replicate, show min magic.length (m + 1 - (⟨0, 0, 0⟩ : RS).at_) = min 3 m + 1 by show min 4 (m + 1 - 0) = _; omega] at h
  have h9 := congrArg List.head? h
  simp [List.replicate_succ, magic] at h9
theorem rdec_zero (k : Nat) (hk : 1 ≤ k) : rdec (List.replicate k (0 : UInt8)) = none := by
  unfold rdec rd5
  simp only
  rw [if_pos (.inl (zero_mg' k hk))]
/-- a slot that is zero holds no record -/
theorem jrec_zero {E : Dv} {f N i : Nat} (hk : okDv E) (hd : E.dn = false) (hN : 1 ≤ N) (h2 : f + 2 * N ≤ E.cnt) (hi : i < 2) (hz : ∀ j, jat E f N i ≤ j → j < jat E f N i + N * E.sz → (contents E)[j]? = some 0) : jrec E f N i = none := by
  have h1 := jat_le h2 hi
  have hcl := contents_len hk
  have hNs : 1 ≤ N * E.sz := Nat.mul_pos hN hk.sz
  unfold jrec
  have hb : rdB E ((jat E f N i : Nat) : Int) ((N * E.sz : Nat) : Int) = List.replicate (N * E.sz) 0 := by
    unfold rdB
    rw [if_pos (jcode hk hd h2 hi), Int.toNat_natCast, Int.toNat_natCast]
    apply List.ext_getElem?
    intro j
    rw [List.getElem?_take, List.getElem?_replicate, List.getElem?_drop]
    by_cases hj : j < N * E.sz
    · rw [if_pos hj, if_pos hj]; exact hz _ (by omega) (by omega)
    · rw [if_neg hj, if_neg hj]
  rw [hb]
  exact rdec_zero _ hNs
theorem jfm_none {D : Dv} {f N : Nat} {E : Dv} (h : JFm D f N E) (hN : 1 ≤ N) (h2 : f + 2 * N ≤ D.cnt) : jrecs E f N = [] := by
  have hc : contents E = E.dk := by unfold contents; rw [h.ca]; rfl
  have key : ∀ i, i < 2 → jrec E f N i = none := fun i hi => by
    refine jrec_zero h.ok h.dn hN (by rw [h.cnt]; exact h2) hi fun j h3 h4 => ?_
    rw [hc, h.dk j]
    unfold jat at h3 h4
    rw [h.sz] at h3 h4
    have e1 : f * D.sz ≤ (f + i * N) * D.sz := Nat.mul_le_mul_right _ (by omega)
    have e2 : (f + i * N) * D.sz + N * D.sz = (f + i * N + N) * D.sz := by rw [Nat.add_mul (f + i * N)]
    have e3 : (f + i * N + N) * D.sz ≤ (f + 2 * N) * D.sz := Nat.mul_le_mul_right _ (by rcases (show i = 0 ∨ i = 1 by omega) with h | h <;> rw [h] <;> omega)
    rw [if_pos (by omega)]
  unfold jrecs
  rw [key 0 (by decide), key 1 (by decide)]
  rfl
theorem jcheck_ok {D : Dv} {f b : Int} (h : jcheck D f b = 0) : ∃ F N : Nat, f = (F : Int) ∧ slot (D.sz : Int) b = (N : Int) ∧ N ≠ 0 ∧ F + 2 * N ≤ D.cnt := by
  have hb := slot_bnd (D.sz : Int) b
  unfold jcheck at h
  split at h
  · cases h
  · split at h
    · cases h
    · exact ⟨f.toNat, (slot (D.sz : Int) b).toNat, by omega, by omega, by omega, by omega⟩
theorem u64_rng (x : Int) : 0 ≤ IntKind.u64.wrap x ∧ IntKind.u64.wrap x ≤ 18446744073709551615 := by
  have h : IntKind.u64.wrap x = x % 18446744073709551616 := by simp [IntKind.wrap, IntKind.signed, IntKind.bits]
  rw [h]; omega
theorem jnext_rng : ∀ l : List Rc, 0 ≤ jnext l ∧ jnext l ≤ 18446744073709551615
  | [] => by decide
  | [x] => u64_rng _
  | x :: y :: _ => u64_rng _
end Go.Pl
