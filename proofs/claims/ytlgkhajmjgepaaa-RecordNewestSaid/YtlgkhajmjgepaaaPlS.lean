/- Plain law of records: their bytes, reading them back, spoiled ones. No condition. -/
import Derived.Test.YtlgkhajmjgepaaaPlR
namespace Go.Pl
set_option linter.unusedVariables false
set_option linter.unusedSimpArgs false
structure Rc where
  sq : Int
  id : Int
  cu : Int
  of : Int
  bs : List UInt8
def okRc (r : Rc) : Prop := (0 ≤ r.sq ∧ r.sq ≤ 18446744073709551615) ∧ (0 ≤ r.id ∧ r.id ≤ 18446744073709551615) ∧ I64 r.cu ∧ I64 r.of
def rright (r : Rc) : Bool := decide (0 ≤ r.cu ∧ r.cu ≤ 4611686018427387903 ∧ 0 ≤ r.of ∧ r.of ≤ 4611686018427387903 ∧ r.bs.length ≤ 1048576)
theorem rright_iff {r : Rc} : rright r = true ↔ 0 ≤ r.cu ∧ r.cu ≤ 4611686018427387903 ∧ 0 ≤ r.of ∧ r.of ≤ 4611686018427387903 ∧ r.bs.length ≤ 1048576 := by simp [rright]
def magic : List UInt8 := [71, 74, 82, 49]
def flds (r : Rc) : List (Int × Int) := [(r.sq, 8), (r.id, 8), (r.cu, 8), (r.of, 8), ((r.bs.length : Int), 4)]
def rbody (r : Rc) : List UInt8 := magic ++ putB (flds r) ++ r.bs
def sealed (u : List UInt8) : List UInt8 := u ++ leS (crc u)
def renc (r : Rc) : List UInt8 := sealed (rbody r)
/-- the bytes end with their checksum -/
def sumOk (b : List UInt8) : Bool := decide (4 ≤ b.length) && decide (b.drop (b.length - 4) = leS (crc (b.take (b.length - 4))))
theorem leS_len (s : UInt32) : (leS s).length = 4 := rfl
theorem sealed_len (u : List UInt8) : (sealed u).length = u.length + 4 := by unfold sealed; rw [List.length_append]; rfl
theorem sumOk_sealed (u : List UInt8) : sumOk (sealed u) = true := by
  unfold sumOk
  rw [sealed_len, show u.length + 4 - 4 = u.length by omega, decide_eq_true (by omega)]
  unfold sealed
  rw [List.drop_left, List.take_left]
  simp
theorem flds_fit {r : Rc} (h : okRc r) (hr : rright r = true) : fitA (flds r) = true ∧ ∀ f ∈ flds r, okF f := by
  rw [rright_iff] at hr
  obtain ⟨h1, h2, h3, h4⟩ := h
  have p8 := pow8
  have p4 : (256 : Int) ^ 4 = 4294967296 := by decide
  refine ⟨?_, ?_⟩
  · have t8 : (8 : Int).toNat = 8 := rfl
    have t4 : (4 : Int).toNat = 4 := rfl
    simp only [fitA, flds, List.all_cons, List.all_nil, fits, Bool.and_true, Bool.and_eq_true, decide_eq_true_eq, t8, t4, p8, p4]
    simp only [I64] at h3 h4
    omega
  · intro f hf
    simp only [flds, List.mem_cons, List.not_mem_nil, or_false] at hf
    rcases hf with rfl | rfl | rfl | rfl | rfl <;> simp only [okF, I64] <;> omega
theorem putB_flds (r : Rc) : putB (flds r) = be r.sq 8 ++ (be r.id 8 ++ (be r.cu 8 ++ (be r.of 8 ++ be (r.bs.length : Int) 4))) := by
  simp only [putB, flds, List.flatMap_cons, List.flatMap_nil, List.append_nil]
  rfl
theorem head_len (r : Rc) : (magic ++ putB (flds r)).length = 40 := by
  rw [putB_flds]; simp only [List.length_append, be_len]; rfl
theorem rbody_len (r : Rc) : (rbody r).length = 40 + r.bs.length := by
  unfold rbody; rw [List.length_append, head_len]
theorem renc_len (r : Rc) : (renc r).length = 44 + r.bs.length := by
  unfold renc; rw [sealed_len, rbody_len]; omega
/-! ### Reading -/
structure Rd5 where
  ok : Bool
  st : RS
  sq : Int
  id : Int
  cu : Int
  of : Int
  n : Int
def rd5 (h : List UInt8) : Rd5 :=
  let e := rexpect h ⟨0, 0, 0⟩ magic 19
  let a := ruint h e.1 8
  let b := ruint h a.1 8
  let c := rlength h b.1
  let d := rlength h c.1
  let n := ruint h d.1 4
  ⟨e.2, n.1, a.2, b.2, c.2, d.2, n.2⟩
def rdec (b : List UInt8) : Option Rc :=
  let x := rd5 (b.take 40)
  if x.ok = false ∨ ¬ (x.st.code = 0 ∧ x.st.fat = 0) ∨ rsize x.n = 0 ∨ (b.length : Int) < rsize x.n then none
  else if sumOk (b.take (rsize x.n).toNat) = true then some ⟨x.sq, x.id, x.cu, x.of, ((b.take (rsize x.n).toNat).take ((b.take (rsize x.n).toNat).length - 4)).drop 40⟩ else none
theorem fail_ne {s : RS} {c a : Int} (hc : c ≠ 0) (h : (s.fail c a).code = 0) : False := fail_code hc h
theorem ruint_good {bs : List UInt8} {s : RS} {n : Int} (hn : 1 ≤ n ∧ n ≤ 8) (h : (ruint bs s n).1.code = 0) : s.code = 0 ∧ (ruint bs s n).1 = { s with at_ := s.at_ + n.toNat } ∧ (s.at_ : Int) + n ≤ bs.length ∧ (ruint bs s n).2 = num 0 ((bs.drop s.at_).take n.toNat) := by
  have hu : usize n = n := by unfold usize; rw [if_neg (by omega)]
  unfold ruint at h ⊢
  rw [hu] at h ⊢
  cases ht : (rtake bs.length s n).2 with
  | false =>
    rw [ht] at h
    simp only [Bool.false_eq_true, if_false] at h
    unfold rtake at h ht
    by_cases h0 : s.code ≠ 0
    · rw [if_pos h0] at h; exact absurd h h0
    · rw [if_neg h0] at h ht
      by_cases h1 : n < 0
      · omega
      · rw [if_neg h1] at h ht
        by_cases h2 : n > (bs.length : Int) - s.at_
        · rw [if_pos h2] at h; exact (fail_ne (by decide) h).elim
        · rw [if_neg h2] at ht; cases ht
  | true =>
    obtain ⟨h0, h1, h2, h3⟩ := rtake_ok ht
    exact ⟨h0, by simpa using h3, by omega, by simp⟩
theorem rlength_good {bs : List UInt8} {s : RS} (h : (rlength bs s).1.code = 0) : s.code = 0 ∧ (rlength bs s).1 = { s with at_ := s.at_ + 8 } ∧ (s.at_ : Int) + 8 ≤ bs.length ∧ (rlength bs s).2 = num 0 ((bs.drop s.at_).take 8) := by
  unfold rlength at h ⊢
  by_cases hc : (ruint bs s 8).2 > 4611686018427387903
  · rw [if_pos hc] at h; exact (fail_ne (by decide) h).elim
  · rw [if_neg hc] at h ⊢
    exact ruint_good (by decide) h
theorem rexpect_good {bs : List UInt8} {s : RS} {ds : List UInt8} {c : Int} (h : (rexpect bs s ds c).2 = true) : s.code = 0 ∧ (rexpect bs s ds c).1 = { s with at_ := s.at_ + ds.length } ∧ (s.at_ : Int) + ds.length ≤ bs.length := by
  unfold rexpect at h ⊢
  by_cases h0 : s.code ≠ 0
  · rw [if_pos h0] at h; cases h
  · rw [if_neg h0] at h ⊢
    split at h
    · cases h
    · rename_i h1
      rw [if_neg h1]
      obtain ⟨h2, h3, h4, h5⟩ := rtake_ok h
      refine ⟨h2, ?_, by omega⟩
      rw [h5, Int.toNat_natCast]
/-- what is read, is there -/
theorem rd5_good {h : List UInt8} (h0 : (rd5 h).ok = true) (h1 : (rd5 h).st.code = 0) : 40 ≤ h.length ∧ (rd5 h).n = num 0 ((h.drop 36).take 4) := by
  unfold rd5 at h0 h1 ⊢
  simp only at h0 h1 ⊢
  obtain ⟨_, e1, _⟩ := rexpect_good h0
  obtain ⟨c5, e6, l6, e7⟩ := ruint_good (by decide) h1
  rw [e7]
  obtain ⟨c4, e5, _⟩ := rlength_good c5
  obtain ⟨c3, e4, _⟩ := rlength_good c4
  obtain ⟨c2, e3, _⟩ := ruint_good (by decide) c3
  obtain ⟨c1, e2, _⟩ := ruint_good (by decide) c2
  have hat : (rlength h (rlength h (ruint h (ruint h (rexpect h ⟨0, 0, 0⟩ magic 19).1 8).1 8).1).1).1.at_ = 36 := by
    rw [e5, e4, e3, e2, e1]; rfl
  rw [hat] at l6 ⊢
  exact ⟨by omega, rfl⟩
theorem num4 (l : List UInt8) (h : l.length ≤ 4) : 0 ≤ num 0 l ∧ num 0 l < 4294967296 := by
  have h1 := num_bnd l 0 (by decide)
  have h2 : (256 : Int) ^ l.length ≤ 256 ^ 4 := pow_le h
  have h3 : (256 : Int) ^ 4 = 4294967296 := by decide
  omega
theorem rd5_n (h : List UInt8) : 0 ≤ (rd5 h).n ∧ (rd5 h).n < 4294967296 := by
  have key : ∀ s : RS, 0 ≤ (ruint h s 4).2 ∧ (ruint h s 4).2 < 4294967296 := fun s => by
    unfold ruint
    split
    · exact num4 _ (by rw [List.length_take]; show min 4 _ ≤ 4; omega)
    · simp
  exact key _
/-- a record that is decoded has room, and its checksum is right -/
theorem rdec_some {b : List UInt8} {r : Rc} (h : rdec b = some r) : 40 ≤ b.length ∧ ∃ n : Nat, n = 44 + (num 0 ((b.drop 36).take 4)).toNat ∧ n ≤ b.length ∧ sumOk (b.take n) = true := by
  unfold rdec at h
  simp only at h
  split at h
  · cases h
  · rename_i hg
    split at h
    · rename_i hs
      simp only [not_or, Decidable.not_not, Bool.not_eq_false] at hg
      obtain ⟨g1, g2, g3, g4⟩ := hg
      obtain ⟨k1, k2⟩ := rd5_good g1 g2.1
      have hl : (b.take 40).length ≤ b.length := by rw [List.length_take]; omega
      have e : ((b.take 40).drop 36).take 4 = (b.drop 36).take 4 := by
        rw [List.drop_take]
        simp [List.take_take]
      rw [e] at k2
      have hn := rd5_n (b.take 40)
      have hz : rsize (rd5 (b.take 40)).n = 44 + (rd5 (b.take 40)).n := by
        unfold rsize at g3 ⊢
        split at g3
        · exact absurd rfl g3
        · rename_i h1; rw [if_neg h1]; omega
      refine ⟨by omega, (rsize (rd5 (b.take 40)).n).toNat, ?_, by omega, hs⟩
      rw [hz, k2] at *
      omega
    · cases h
theorem ruint_mid {pre post : List UInt8} {v n : Int} (h0 : 0 ≤ v) (hf : fits v n = true) : ruint (pre ++ (be v n.toNat ++ post)) ⟨pre.length, 0, 0⟩ n = (⟨pre.length + n.toNat, 0, 0⟩, v) := by
  have hn := fits_bnd hf
  have hu := usize_ok hf
  have ht : rtake (pre ++ (be v n.toNat ++ post)).length ⟨pre.length, 0, 0⟩ n = (⟨pre.length + n.toNat, 0, 0⟩, true) := by
    unfold rtake
    rw [if_neg (by simp), if_neg (by omega), if_neg (by simp only [List.length_append, be_len]; omega)]
  unfold ruint
  rw [hu, ht]
  simp only [if_true]
  rw [List.drop_left, List.take_append_of_le_length (by rw [be_len]; exact Nat.le_refl _), List.take_of_length_le (by rw [be_len]; exact Nat.le_refl _), num_be0 h0 hf]
theorem rlength_mid {pre post : List UInt8} {v : Int} (h0 : 0 ≤ v ∧ v ≤ 4611686018427387903) (hf : fits v 8 = true) : rlength (pre ++ (be v 8 ++ post)) ⟨pre.length, 0, 0⟩ = (⟨pre.length + 8, 0, 0⟩, v) := by
  have h := ruint_mid (pre := pre) (post := post) h0.1 hf
  have e8 : (8 : Int).toNat = 8 := rfl
  rw [e8] at h
  unfold rlength
  rw [h, if_neg (by simp only; omega)]
theorem rd5_head {r : Rc} (h : okRc r) (hr : rright r = true) : rd5 (magic ++ putB (flds r)) = ⟨true, ⟨40, 0, 0⟩, r.sq, r.id, r.cu, r.of, (r.bs.length : Int)⟩ := by
  have hfit := (flds_fit h hr).1
  rw [rright_iff] at hr
  simp only [fitA, flds, List.all_cons, List.all_nil, Bool.and_true, Bool.and_eq_true] at hfit
  obtain ⟨f1, f2, f3, f4, f5⟩ := hfit
  rw [putB_flds]
  have e0 : rexpect (magic ++ (be r.sq 8 ++ (be r.id 8 ++ (be r.cu 8 ++ (be r.of 8 ++ be (r.bs.length : Int) 4))))) ⟨0, 0, 0⟩ magic 19 = (⟨4, 0, 0⟩, true) := by
    unfold rexpect
    rw [if_neg (by simp)]
    have hl : (magic ++ (be r.sq 8 ++ (be r.id 8 ++ (be r.cu 8 ++ (be r.of 8 ++ be (r.bs.length : Int) 4))))).length = 40 := by simp only [List.length_append, be_len]; rfl
    rw [hl]
    have e2 : min magic.length (40 - (⟨0, 0, 0⟩ : RS).at_) = 4 := rfl
    rw [e2, List.drop_zero, List.take_append_of_le_length (by decide), if_neg (by simp)]
    rfl
  have e1 := ruint_mid (pre := magic) (post := be r.id 8 ++ (be r.cu 8 ++ (be r.of 8 ++ be (r.bs.length : Int) 4))) h.1.1 f1
  have e2 := ruint_mid (pre := magic ++ be r.sq 8) (post := be r.cu 8 ++ (be r.of 8 ++ be (r.bs.length : Int) 4)) h.2.1.1 f2
  have e3 := rlength_mid (pre := magic ++ be r.sq 8 ++ be r.id 8) (post := be r.of 8 ++ be (r.bs.length : Int) 4) ⟨hr.1, hr.2.1⟩ f3
  have e4 := rlength_mid (pre := magic ++ be r.sq 8 ++ be r.id 8 ++ be r.cu 8) (post := be (r.bs.length : Int) 4) ⟨hr.2.2.1, hr.2.2.2.1⟩ f4
  have e5 := ruint_mid (pre := magic ++ be r.sq 8 ++ be r.id 8 ++ be r.cu 8 ++ be r.of 8) (post := []) (by omega : 0 ≤ (r.bs.length : Int)) f5
  have l0 : magic.length = 4 := rfl
  have t8 : (8 : Int).toNat = 8 := rfl
  have t4 : (4 : Int).toNat = 4 := rfl
  simp only [t8, t4, List.length_append, be_len, l0, List.append_assoc, List.append_nil, Nat.reduceAdd] at e1 e2 e3 e4 e5
  unfold rd5
  simp only [e0, e1, e2, e3, e4, e5]
/-- decoding inverts encoding -/
theorem rdec_renc {r : Rc} (h : okRc r) (hr : rright r = true) (more : List UInt8) : rdec (renc r ++ more) = some r := by
  have hr' := rright_iff.1 hr
  have ht : (renc r ++ more).take 40 = magic ++ putB (flds r) := by
    unfold renc sealed rbody
    rw [List.append_assoc, List.append_assoc (magic ++ putB (flds r)), List.take_append_of_le_length (by rw [head_len]; exact Nat.le_refl _), List.take_of_length_le (by rw [head_len]; exact Nat.le_refl _)]
  have hz : rsize (r.bs.length : Int) = 44 + r.bs.length := by unfold rsize; rw [if_neg (by omega)]; omega
  have ha : (renc r ++ more).take (44 + (r.bs.length : Int)).toNat = renc r := by
    rw [show (44 + (r.bs.length : Int)).toNat = (renc r).length by rw [renc_len]; omega]
    exact List.take_left
  unfold rdec
  simp only [ht, rd5_head h hr, hz, ha]
  rw [if_neg (by rw [List.length_append, renc_len]; simp; omega)]
  rw [if_pos (by exact sumOk_sealed _)]
  congr 1
  have hb : ((renc r).take ((renc r).length - 4)).drop 40 = r.bs := by
    have e1 : (renc r).length - 4 = (rbody r).length := by rw [renc_len, rbody_len]; omega
    rw [e1]
    unfold renc sealed
    rw [List.take_left]
    unfold rbody
    rw [show 40 = (magic ++ putB (flds r)).length by rw [head_len], List.drop_left]
  rw [hb]
/-! ### Spoiled ones -/
theorem set_cat {α : Type} {a b : List α} {k : Nat} {c : α} (h : k < a.length) : (a ++ b).set k c = a.set k c ++ b := List.set_append_left k c h
theorem sum_spoiled {u : List UInt8} {k : Nat} {c d : UInt8} (hk : (sealed u)[k]? = some d) (hc : c ≠ d) : sumOk ((sealed u).set k c) = false := by
  cases hs : sumOk ((sealed u).set k c) with
  | false => rfl
  | true =>
    exfalso
    unfold sumOk at hs
    rw [List.length_set, sealed_len, show u.length + 4 - 4 = u.length by omega, Bool.and_eq_true, decide_eq_true_eq, decide_eq_true_eq] at hs
    have hs := hs.2
    have hkl := (List.getElem?_eq_some_iff.1 hk).1
    rw [sealed_len] at hkl
    by_cases hu : k < u.length
    · unfold sealed at hs hk
      rw [List.set_append_left k c hu] at hs
      have hl : (u.set k c).length = u.length := List.length_set
      rw [List.drop_append_of_le_length (by omega), List.drop_of_length_le (by omega), List.nil_append, List.take_append_of_le_length (by omega), List.take_of_length_le (by omega)] at hs
      have h1 := leS_inj hs
      rw [List.getElem?_append_left hu] at hk
      have hd : u = u.take k ++ d :: u.drop (k + 1) := by
        conv => lhs; rw [← List.take_append_drop k u]
        congr 1
        exact drop_cons hk
      have hset : u.set k c = u.take k ++ c :: u.drop (k + 1) := by rw [List.set_eq_take_append_cons_drop, if_pos hu]
      rw [hset] at h1
      have h2 : crc (u.take k ++ d :: u.drop (k + 1)) = crc u := by rw [← hd]
      exact crc_ne (fun e => hc e.symm) (h2.trans h1)
    · unfold sealed at hs hk
      rw [List.set_append_right k c (by omega), List.drop_left, List.take_left] at hs
      rw [List.getElem?_append_right (by omega)] at hk
      have := congrArg (fun l => l[k - u.length]?) hs
      simp only [List.getElem?_set_self (List.getElem?_eq_some_iff.1 hk).1, hk] at this
      exact hc (Option.some.inj this)
theorem renc_count {r : Rc} (hr : rright r = true) : ((renc r).drop 36).take 4 = be (r.bs.length : Int) 4 := by
  unfold renc sealed rbody
  rw [putB_flds]
  have e : magic ++ (be r.sq 8 ++ (be r.id 8 ++ (be r.cu 8 ++ (be r.of 8 ++ be (r.bs.length : Int) 4)))) ++ r.bs = (magic ++ be r.sq 8 ++ be r.id 8 ++ be r.cu 8 ++ be r.of 8) ++ (be (r.bs.length : Int) 4 ++ r.bs) := by simp only [List.append_assoc]
  rw [e, List.append_assoc]
  have hl : (magic ++ be r.sq 8 ++ be r.id 8 ++ be r.cu 8 ++ be r.of 8).length = 36 := by simp only [List.length_append, be_len]; rfl
  rw [show 36 = (magic ++ be r.sq 8 ++ be r.id 8 ++ be r.cu 8 ++ be r.of 8).length from hl.symm, List.drop_left, List.append_assoc, List.take_append_of_le_length (by rw [be_len]; exact Nat.le_refl _), List.take_of_length_le (by rw [be_len]; exact Nat.le_refl _)]
theorem num_count {r : Rc} (h : okRc r) (hr : rright r = true) : num 0 (be (r.bs.length : Int) 4) = r.bs.length := by
  have hfit := (flds_fit h hr).1
  simp only [fitA, flds, List.all_cons, List.all_nil, Bool.and_true, Bool.and_eq_true] at hfit
  exact num_be0 (n := 4) (by omega) hfit.2.2.2.2
theorem dt_set {b : List UInt8} {k : Nat} {c : UInt8} (h : ¬ (36 ≤ k ∧ k < 40)) : ((b.set k c).drop 36).take 4 = (b.drop 36).take 4 := by
  apply List.ext_getElem?
  intro j
  rw [List.getElem?_take, List.getElem?_take]
  split
  · rw [List.getElem?_drop, List.getElem?_drop, List.getElem?_set_ne (by omega)]
  · rfl
theorem rdec_spoiled {r : Rc} (h : okRc r) (hr : rright r = true) {k : Nat} {c d : UInt8} (hk : (renc r)[k]? = some d) (hc : c ≠ d) (hn : ¬ (36 ≤ k ∧ k < 40)) : rdec ((renc r).set k c) = none := by
  cases hd : rdec ((renc r).set k c) with
  | none => rfl
  | some x =>
    obtain ⟨_, n, h1, h2, h3⟩ := rdec_some hd
    rw [dt_set hn, renc_count hr, num_count h hr, Int.toNat_natCast] at h1
    rw [List.take_of_length_le (by rw [List.length_set, renc_len]; omega)] at h3
    have := sum_spoiled (u := rbody r) hk hc
    have h4 : sumOk ((sealed (rbody r)).set k c) = true := h3
    rw [h4] at this; cases this
theorem rdec_short {r : Rc} (h : okRc r) (hr : rright r = true) {m : Nat} (hm : m < (renc r).length) : rdec ((renc r).take m) = none := by
  cases hd : rdec ((renc r).take m) with
  | none => rfl
  | some x =>
    obtain ⟨h0, n, h1, h2, _⟩ := rdec_some hd
    have hl : ((renc r).take m).length ≤ m := by rw [List.length_take]; omega
    have e : (((renc r).take m).drop 36).take 4 = ((renc r).drop 36).take 4 := by
      rw [List.drop_take, List.take_take, show min 4 (m - 36) = 4 by omega]
    rw [e, renc_count hr, num_count h hr, Int.toNat_natCast] at h1
    rw [renc_len] at hm
    omega
end Go.Pl
