/- Plain law of a journal on a device that may crash: its two slots, and what is found after the crash. No condition. -/
import Derived.Test.YthailbggeafckaaGreatPlL
namespace Go.Pl
set_option linter.unusedVariables false
set_option linter.unusedSimpArgs false
theorem rdec_more {b m : List UInt8} {x : Rc} (h : rdec b = some x) : rdec (b ++ m) = some x := by
  have h40 := (rdec_some h).1
  unfold rdec at h ⊢
  simp only at h ⊢
  rw [List.take_append_of_le_length h40]
  split at h
  · cases h
  · rename_i hg
    have hn : (rsize (rd5 (b.take 40)).n).toNat ≤ b.length := by
      have : ¬ (b.length : Int) < rsize (rd5 (b.take 40)).n := fun e => hg (.inr (.inr (.inr e)))
      omega
    rw [if_neg (fun e => hg (e.elim .inl fun e => .inr (e.elim .inl fun e => .inr (e.elim .inl fun e => .inr (by rw [List.length_append] at e; omega)))))]
    rw [List.take_append_of_le_length hn]
    exact h
theorem rlength_rng (h : List UInt8) (s : RS) : 0 ≤ (rlength h s).2 ∧ (rlength h s).2 ≤ 4611686018427387903 := by
  have := ruint_bnd h s 8
  unfold rlength
  split
  · exact ⟨Int.le_refl _, by simp⟩
  · exact ⟨this.1, by omega⟩
theorem rdec_dat {b : List UInt8} {x : Rc} (h : rdec b = some x) : rright x = true ∧ (x.bs.length : Int) = num 0 ((b.drop 36).take 4) := by
  unfold rdec at h
  simp only at h
  split at h
  · cases h
  · rename_i hg
    split at h
    · simp only [not_or, Decidable.not_not, Bool.not_eq_false] at hg
      obtain ⟨g1, g2, g3, g4⟩ := hg
      obtain ⟨k1, k2⟩ := rd5_good g1 g2.1
      have hl : (b.take 40).length ≤ b.length := by rw [List.length_take]; omega
      have e : ((b.take 40).drop 36).take 4 = (b.drop 36).take 4 := by
        rw [List.drop_take]
        simp [List.take_take]
      rw [e] at k2
      have hn := rd5_n (b.take 40)
      have hz : rsize (rd5 (b.take 40)).n = 44 + (rd5 (b.take 40)).n ∧ (rd5 (b.take 40)).n ≤ 1048576 := by
        unfold rsize at g3 ⊢
        split at g3
        · exact absurd rfl g3
        · rename_i h1; rw [if_neg h1]; omega
      cases h
      have c1 := rlength_rng (b.take 40) (ruint (b.take 40) (ruint (b.take 40) (rexpect (b.take 40) ⟨0, 0, 0⟩ magic 19).1 8).1 8).1
      have c2 := rlength_rng (b.take 40) (rlength (b.take 40) (ruint (b.take 40) (ruint (b.take 40) (rexpect (b.take 40) ⟨0, 0, 0⟩ magic 19).1 8).1 8).1).1
      have hlen : ((List.drop 40 ((b.take (rsize (rd5 (b.take 40)).n).toNat).take ((b.take (rsize (rd5 (b.take 40)).n).toNat).length - 4))).length : Int) = (rd5 (b.take 40)).n := by
        simp only [List.length_drop, List.length_take]
        omega
      refine ⟨rright_iff.2 ⟨c1.1, c1.2, c2.1, c2.2, ?_⟩, ?_⟩
      · exact Int.ofNat_le.1 (Int.le_trans (Int.le_of_eq hlen) hz.2)
      · rw [← k2]; exact hlen
    · cases h
/-- a slot that begins with a record, or is zero -/
def SlotIs (D : Dv) (f N i : Nat) : Option Rc → Prop
  | some r => okRc r ∧ rright r = true ∧ (renc r).length ≤ N * D.sz ∧ ∀ j, j < (renc r).length → D.dk[jat D f N i + j]? = (renc r)[j]?
  | none => ∀ j, j < N * D.sz → D.dk[jat D f N i + j]? = some 0
theorem jrec_slot {D : Dv} {f N i : Nat} {o : Option Rc} (hk : okDv D) (hd : D.dn = false) (hca : D.ca = []) (hN : 1 ≤ N) (h2 : f + 2 * N ≤ D.cnt) (hi : i < 2) (h : SlotIs D f N i o) : jrec D f N i = o := by
  have e2 : contents D = D.dk := by unfold contents; rw [hca]; rfl
  have h1 := jat_le h2 hi
  have hl := hk.len
  cases o with
  | none =>
    refine jrec_zero hk hd hN h2 hi fun j h3 h4 => ?_
    rw [e2]
    have := h (j - jat D f N i) (by omega)
    rwa [show jat D f N i + (j - jat D f N i) = j by omega] at this
  | some r =>
    obtain ⟨h3, h4, h5, h6⟩ := h
    unfold jrec rdB
    rw [if_pos (jcode hk hd h2 hi), Int.toNat_natCast, Int.toNat_natCast, e2]
    have e3 : ((D.dk.drop (jat D f N i)).take (N * D.sz)) = renc r ++ ((D.dk.drop (jat D f N i)).take (N * D.sz)).drop (renc r).length := by
      conv => lhs; rw [← List.take_append_drop (renc r).length ((D.dk.drop (jat D f N i)).take (N * D.sz))]
      congr 1
      apply List.ext_getElem?
      intro j
      rw [List.getElem?_take]
      by_cases hj : j < (renc r).length
      · rw [if_pos hj, List.getElem?_take, if_pos (by omega), List.getElem?_drop]; exact h6 j hj
      · rw [if_neg hj, List.getElem?_eq_none (by omega)]
    rw [e3]
    exact rdec_renc h3 h4 _
/-- the bytes that hold the length of the data -/
theorem renc_len4 {r : Rc} (h : okRc r) (hr : rright r = true) (hl : r.bs.length ≤ 255) (j : Nat) (hj : j < 4) : (renc r)[36 + j]? = some (if j = 3 then UInt8.ofNat r.bs.length else 0) := by
  have h1 := renc_count hr
  have h2 : ((renc r).drop 36).take 4 = [0, 0, 0, UInt8.ofNat r.bs.length] := by
    rw [h1]
    have e : ∀ k, byt (r.bs.length : Int) k = UInt8.ofNat ((r.bs.length / 256 ^ k) % 256) := fun k => by
      unfold byt
      first
        | rfl
        | (congr 1; norm_cast)
        | (congr 1; omega)
    show [byt (r.bs.length : Int) 3, byt (r.bs.length : Int) 2, byt (r.bs.length : Int) 1, byt (r.bs.length : Int) 0] = _
    rw [e, e, e, e, Nat.div_eq_of_lt (show r.bs.length < 256 ^ 3 by omega), Nat.div_eq_of_lt (show r.bs.length < 256 ^ 2 by omega), Nat.div_eq_of_lt (show r.bs.length < 256 ^ 1 by omega), Nat.pow_zero, Nat.div_one, Nat.mod_eq_of_lt (show r.bs.length < 256 by omega)]
    rfl
  have h3 : (((renc r).drop 36).take 4)[j]? = (renc r)[36 + j]? := by rw [List.getElem?_take, if_pos hj, List.getElem?_drop]
  rw [← h3, h2]
  match j, hj with
  | 0, _ | 1, _ | 2, _ | 3, _ => rfl
theorem num_four {l : List UInt8} (hl : l.length = 4) (h : ∀ j, j < 3 → l[j]? = some 0) : num 0 l = ((l.getD 3 0).toNat : Int) := by
  match l, hl with
  | [a, b, c, d], _ =>
    have h0 := h 0 (by decide)
    have h1 := h 1 (by decide)
    have h2 := h 2 (by decide)
    simp only [List.getElem?_cons_zero, List.getElem?_cons_succ, Option.some.injEq] at h0 h1 h2
    subst h0 h1 h2
    show 0 * 256 + _ = _
    simp [num]
/-- a slot whose bytes are those of what it held or of the record that is being written: what is read there has no more data than these -/
theorem slot_mix {D E : Dv} {f N i : Nat} {b : Int} {o : Option Rc} {r x : Rc} (hk : okDv E) (hd : E.dn = false) (hca : E.ca = []) (hsz : E.sz = D.sz) (h2 : f + 2 * N ≤ E.cnt) (hi : i < 2) (h45 : 44 ≤ N * D.sz)
    (hs : SlotIs D f N i o) (ho : ∀ q, o = some q → (q.bs.length : Int) ≤ b ∧ q.bs.length ≤ 255) (hr : okRc r) (hrr : rright r = true) (hrb : (r.bs.length : Int) ≤ b) (hr2 : r.bs.length ≤ 255) (hb : 0 ≤ b)
    (hm : MixB D.dk (jat D f N i) (renc r) E.dk) (hx : jrec E f N i = some x) : (x.bs.length : Int) ≤ b := by
  have e2 : contents E = E.dk := by unfold contents; rw [hca]; rfl
  have h1 := jat_le h2 hi
  have hl := hk.len
  have hat : jat E f N i = jat D f N i := by unfold jat; rw [hsz]
  have hrl := renc_len r
  unfold jrec rdB at hx
  rw [if_pos (jcode hk hd h2 hi), Int.toNat_natCast, Int.toNat_natCast, e2, hat, hsz] at hx
  rw [hat, hsz] at h1
  rw [hsz] at hl
  obtain ⟨d1, d2⟩ := rdec_dat hx
  have hg : ∀ j, j < 4 → ((((E.dk.drop (jat D f N i)).take (N * D.sz)).drop 36).take 4)[j]? = E.dk[jat D f N i + (36 + j)]? := fun j hj => by
    rw [List.getElem?_take, if_pos hj, List.getElem?_drop, List.getElem?_take, if_pos (by omega), List.getElem?_drop]
  have hlen : ((((E.dk.drop (jat D f N i)).take (N * D.sz)).drop 36).take 4).length = 4 := by
    simp only [List.length_take, List.length_drop]
    omega
  have hv : ∀ j, j < 4 → ∃ n : Nat, n ≤ 255 ∧ (n : Int) ≤ b ∧ E.dk[jat D f N i + (36 + j)]? = some (if j = 3 then UInt8.ofNat n else 0) := fun j hj => by
    rcases hm.2 (jat D f N i + (36 + j)) with h9 | ⟨_, _, h9⟩
    · rw [h9]
      cases o with
      | none =>
        refine ⟨0, by omega, hb, ?_⟩
        rw [hs (36 + j) (by omega)]
        split <;> rfl
      | some q =>
        obtain ⟨q1, q2, q3, q4⟩ := hs
        have hq := ho q rfl
        have hql := renc_len q
        exact ⟨q.bs.length, hq.2, hq.1, by rw [q4 (36 + j) (by omega)]; exact renc_len4 q1 q2 hq.2 j hj⟩
    · refine ⟨r.bs.length, hr2, hrb, ?_⟩
      rw [h9, show jat D f N i + (36 + j) - jat D f N i = 36 + j by omega]
      exact renc_len4 hr hrr hr2 j hj
  have h0 := num_four hlen fun j hj => by
    rw [hg j (by omega)]
    obtain ⟨n, _, _, h8⟩ := hv j (by omega)
    rw [h8, if_neg (by omega)]
  obtain ⟨n, n1, n2, n3⟩ := hv 3 (by decide)
  rw [d2, h0, List.getD_eq_getElem?_getD, hg 3 (by decide), n3, if_pos rfl]
  show ((UInt8.ofNat n).toNat : Int) ≤ b
  rw [UInt8.toNat_ofNat', Nat.mod_eq_of_lt (by omega)]
  exact n2
end Go.Pl
