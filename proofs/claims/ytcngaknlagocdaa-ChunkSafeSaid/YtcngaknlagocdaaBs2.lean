/- The program logic of these proofs and the plain laws of the layers below, part 2. No condition. -/
import Derived.Test.YtcngaknlagocdaaBs1
namespace Go.Pl
set_option linter.unusedVariables false
set_option linter.unusedSimpArgs false
/-- byte number k of v, from the least on -/
def byt (v : Int) (k : Nat) : UInt8 := UInt8.ofNat (v / 256 ^ k % 256).toNat
theorem byt_val (v : Int) (k : Nat) : ((byt v k).toNat : Int) = v / 256 ^ k % 256 := by
  unfold byt
  rw [UInt8.toNat_ofNat']
  have h1 := Int.emod_nonneg (v / 256 ^ k) (show (256 : Int) ≠ 0 by decide)
  have h2 := Int.emod_lt_of_pos (v / 256 ^ k) (show (0 : Int) < 256 by decide)
  generalize v / 256 ^ k % 256 = x at h1 h2
  omega
/-- v in n bytes, the greatest first -/
def be (v : Int) : Nat → List UInt8
  | 0 => []
  | k + 1 => byt v k :: be v k
theorem be_len (v : Int) : ∀ n, (be v n).length = n
  | 0 => rfl
  | n + 1 => by simp [be, be_len v n]
def fits (v n : Int) : Bool := decide (1 ≤ n ∧ n ≤ 8 ∧ v < 256 ^ n.toNat)
def num (x : Int) : List UInt8 → Int
  | [] => x
  | b :: r => num (x * 256 + b.toNat) r
theorem num_be (v : Int) (h : 0 ≤ v) : ∀ (n : Nat) (x : Int), num x (be v n) = x * 256 ^ n + v % 256 ^ n
  | 0, x => by simp [num, be]
  | n + 1, x => by
    simp only [be, num]
    rw [num_be v h n, byt_val, Int.pow_succ]
    have h1 : v % (256 ^ n * 256) = v % 256 ^ n + 256 ^ n * (v / 256 ^ n % 256) := by
      have hp : (0 : Int) < 256 ^ n := Int.pow_pos (by decide)
      have e1 := Int.emod_add_mul_ediv v (256 ^ n * 256)
      have e2 := Int.emod_add_mul_ediv v (256 ^ n)
      have e3 := Int.emod_add_mul_ediv (v / 256 ^ n) 256
      have e4 : v / (256 ^ n * 256) = v / 256 ^ n / 256 := by rw [← Int.ediv_ediv_of_nonneg (by omega)]
      rw [e4] at e1
      generalize hq : v / 256 ^ n / 256 = q at *
      generalize hr : v / 256 ^ n % 256 = r at *
      rw [← e3, Int.mul_add] at e2
      have e5 : (256 : Int) ^ n * 256 * q = 256 ^ n * (256 * q) := Int.mul_assoc _ _ _
      omega
    rw [h1, Int.add_mul]
    have e5 : x * 256 * 256 ^ n = x * (256 ^ n * 256) := by rw [Int.mul_assoc, Int.mul_comm 256]
    have e6 : v / 256 ^ n % 256 * 256 ^ n = 256 ^ n * (v / 256 ^ n % 256) := Int.mul_comm _ _
    omega
theorem num_bnd : ∀ (l : List UInt8) (x : Int), 0 ≤ x → 0 ≤ num x l ∧ num x l < (x + 1) * 256 ^ l.length
  | [], x, h => by simp [num]; omega
  | b :: r, x, h => by
    have hb : b.toNat < 256 := UInt8.toNat_lt b
    have := num_bnd r (x * 256 + b.toNat) (by omega)
    simp only [num, List.length_cons, Int.pow_succ]
    refine ⟨this.1, Int.lt_of_lt_of_le this.2 ?_⟩
    have hp : (0 : Int) ≤ 256 ^ r.length := Int.le_of_lt (Int.pow_pos (by decide))
    have : (x * 256 + (b.toNat : Int) + 1) * 256 ^ r.length ≤ ((x + 1) * 256) * 256 ^ r.length := Int.mul_le_mul_of_nonneg_right (by omega) hp
    have e : (x + 1) * (256 ^ r.length * 256) = (x + 1) * 256 * 256 ^ r.length := by rw [Int.mul_assoc (x + 1) 256, Int.mul_comm 256]
    omega
theorem num_app : ∀ (a b : List UInt8) (x : Int), num x (a ++ b) = num (num x a) b
  | [], _, _ => rfl
  | _ :: r, b, x => by simp only [List.cons_append, num]; exact num_app r b _
theorem shr8 {v j : Int} {k : Nat} (hv : 0 ≤ v) (hj : j = 8 * k) (hk : k ≤ 8) : v.fdiv (2 ^ (min j.toNat 64)) = v / 256 ^ k := by
  have h1 : min j.toNat 64 = 8 * k := by omega
  rw [h1, Int.fdiv_eq_ediv_of_nonneg _ (Int.le_of_lt (Int.pow_pos (by decide))), Int.pow_mul]
  rfl
theorem shr71 {v j : Int} {k : Nat} (hv : 0 ≤ v) (hj : j = 8 * k - 1) (h1 : 1 ≤ k) (hk : k ≤ 8) : (v.fdiv (2 ^ (min j.toNat 64))).fdiv (2 ^ (min (1 : Int).toNat 64)) = v / 256 ^ k := by
  have h2 : min j.toNat 64 = 8 * k - 1 := by omega
  have h3 : min (1 : Int).toNat 64 = 1 := by decide
  rw [h2, h3, Int.fdiv_eq_ediv_of_nonneg _ (Int.le_of_lt (Int.pow_pos (by decide))), Int.fdiv_eq_ediv_of_nonneg _ (Int.le_of_lt (Int.pow_pos (by decide))), Int.ediv_ediv_of_nonneg (Int.le_of_lt (Int.pow_pos (by decide))), ← Int.pow_add, show 8 * k - 1 + 1 = 8 * k by omega, Int.pow_mul]
  rfl
theorem div_zero_iff {v : Int} {k : Nat} (hv : 0 ≤ v) : v / 256 ^ k = 0 ↔ v < 256 ^ k := by
  have hp : (0 : Int) < 256 ^ k := Int.pow_pos (by decide)
  constructor
  · intro h
    have := Int.lt_ediv_add_one_mul_self v hp
    rw [h] at this
    omega
  · intro h; exact Int.ediv_eq_zero_of_lt hv h

/-- a reader: offset, error, the error's offset -/
structure RS where
  at_ : Nat
  code : Int
  fat : Int
def RS.fail (s : RS) (c a : Int) : RS := if s.code = 0 ∧ c ≠ 0 then { s with code := c, fat := a } else s
/-- take n bytes of len -/
def rtake (len : Nat) (s : RS) (n : Int) : RS × Bool :=
  if s.code ≠ 0 then (s, false) else if n < 0 then (s.fail 2 s.at_, false) else if n > (len : Int) - s.at_ then (s.fail 8 len, false) else ({ s with at_ := s.at_ + n.toNat }, true)
def usize (n : Int) : Int := if n < 1 ∨ n > 8 then -1 else n
def ruint (bs : List UInt8) (s : RS) (n : Int) : RS × Int :=
  if (rtake bs.length s (usize n)).2 = true then ((rtake bs.length s (usize n)).1, num 0 ((bs.drop s.at_).take (usize n).toNat)) else ((rtake bs.length s (usize n)).1, 0)
theorem rtake_ok {len : Nat} {s : RS} {n : Int} (h : (rtake len s n).2 = true) : s.code = 0 ∧ 0 ≤ n ∧ n ≤ (len : Int) - s.at_ ∧ (rtake len s n).1 = { s with at_ := s.at_ + n.toNat } := by
  unfold rtake at h ⊢
  split at h
  · cases h
  · split at h
    · cases h
    · split at h
      · cases h
      · rename_i h1 h2 h3
        rw [if_neg h1, if_neg h2, if_neg h3]
        exact ⟨by simpa using h1, by omega, by omega, rfl⟩
theorem rtake_at {len : Nat} {s : RS} {n : Int} (h : s.at_ ≤ len) : (rtake len s n).1.at_ ≤ len := by
  unfold rtake RS.fail
  split
  · exact h
  · split
    · split <;> exact h
    · split
      · split <;> exact h
      · simp only; omega
theorem ruint_fst (bs : List UInt8) (s : RS) (n : Int) : (ruint bs s n).1 = (rtake bs.length s (usize n)).1 := by unfold ruint; split <;> rfl
def putB (fs : List (Int × Int)) : List UInt8 := fs.flatMap fun f => be f.1 f.2.toNat
theorem pow8 : (256 : Int) ^ 8 = 18446744073709551616 := by decide
theorem fits_eq {v n : Int} (hv : 0 ≤ v ∧ v ≤ 18446744073709551615) :
    ((decide (n ≥ 1) && decide (n ≤ 8)) && decide ((v.fdiv (2 ^ (min (8 * n - 1).toNat 64))).fdiv (2 ^ (min (1 : Int).toNat 64)) = 0)) = fits v n := by
  unfold fits
  by_cases h : 1 ≤ n ∧ n ≤ 8
  · rw [shr71 (k := n.toNat) hv.1 (by omega) (by omega) (by omega)]
    simp only [div_zero_iff hv.1]
    simp [h]
  · have h1 : (decide (n ≥ 1) && decide (n ≤ 8)) = false := by rw [← Bool.decide_and]; exact decide_eq_false h
    rw [h1, Bool.false_and]
    exact (decide_eq_false fun hh => h ⟨hh.1, hh.2.1⟩).symm
theorem fits_eq' {v n : Int} (hv : 0 ≤ v ∧ v ≤ 18446744073709551615) :
    ((decide (n ≥ 1) && decide (n ≤ 8)) && (decide (n = 8) || decide (v.fdiv (2 ^ (min (8 * n).toNat 64)) = 0))) = fits v n := by
  unfold fits
  by_cases h : 1 ≤ n ∧ n ≤ 8
  · rw [shr8 (k := n.toNat) hv.1 (by omega) (by omega)]
    simp only [div_zero_iff hv.1]
    by_cases h8 : n = 8
    · subst h8
      have : v < 256 ^ (8 : Int).toNat := by rw [show (8 : Int).toNat = 8 from rfl, pow8]; omega
      simp; omega
    · simp [h, h8]
  · have h1 : (decide (n ≥ 1) && decide (n ≤ 8)) = false := by rw [← Bool.decide_and]; exact decide_eq_false h
    rw [h1, Bool.false_and]
    exact (decide_eq_false fun hh => h ⟨hh.1, hh.2.1⟩).symm
theorem pow_le {m n : Nat} (h : m ≤ n) : (256 : Int) ^ m ≤ 256 ^ n := by
  obtain ⟨k, rfl⟩ := Nat.exists_eq_add_of_le h
  rw [Int.pow_add]
  have h1 : (0 : Int) < 256 ^ m := Int.pow_pos (by decide)
  have h2 : (0 : Int) < 256 ^ k := Int.pow_pos (by decide)
  have := Int.mul_le_mul_of_nonneg_left (show (1 : Int) ≤ 256 ^ k by omega) (Int.le_of_lt h1)
  omega
/-! a list of fields -/
def okF (f : Int × Int) : Prop := (0 ≤ f.1 ∧ f.1 ≤ 18446744073709551615) ∧ I64 f.2
def fitA (fs : List (Int × Int)) : Bool := fs.all fun f => fits f.1 f.2
def wout (bs : List UInt8) (fs : List (Int × Int)) : List UInt8 := bif fitA fs then bs ++ putB fs else []
theorem putB_next {fs : List (Int × Int)} {k : Nat} {f : Int × Int} (h : fs[k]? = some f) : putB (fs.take (k + 1)) = putB (fs.take k) ++ be f.1 f.2.toNat := by
  rw [List.take_add_one, h]; simp [putB]
theorem fitA_next {fs : List (Int × Int)} {k : Nat} {f : Int × Int} (h : fs[k]? = some f) : fitA (fs.take (k + 1)) = (fitA (fs.take k) && fits f.1 f.2) := by
  rw [List.take_add_one, h]; simp [fitA]
theorem fitA_not {fs : List (Int × Int)} {k : Nat} {f : Int × Int} (h : fs[k]? = some f) (hf : fits f.1 f.2 = false) : fitA fs = false := by
  rw [fitA, List.all_eq_false]; exact ⟨f, List.mem_of_getElem? h, by simp [hf]⟩
theorem fits_bnd {v n : Int} (h : fits v n = true) : 1 ≤ n ∧ n ≤ 8 := by unfold fits at h; have := of_decide_eq_true h; exact ⟨this.1, this.2.1⟩
/-! the readers' further calls -/
def rlength (bs : List UInt8) (s : RS) : RS × Int := if (ruint bs s 8).2 > 4611686018427387903 then ((ruint bs s 8).1.fail 2 s.at_, 0) else ruint bs s 8
def rbytes (bs : List UInt8) (s : RS) (n : Int) : RS × List UInt8 := ((rtake bs.length s n).1, if (rtake bs.length s n).2 = true then (bs.drop s.at_).take n.toNat else [])
def rexpect (bs : List UInt8) (s : RS) (ds : List UInt8) (c : Int) : RS × Bool :=
  if s.code ≠ 0 then (s, false) else if ds.take (min ds.length (bs.length - s.at_)) ≠ (bs.drop s.at_).take (min ds.length (bs.length - s.at_)) then (s.fail c s.at_, false) else rtake bs.length s ds.length
theorem ruint_bnd (bs : List UInt8) (s : RS) (n : Int) : 0 ≤ (ruint bs s n).2 ∧ (ruint bs s n).2 ≤ 18446744073709551615 := by
  unfold ruint
  split
  · have h := num_bnd ((bs.drop s.at_).take (usize n).toNat) 0 (Int.le_refl _)
    have h8 : ((bs.drop s.at_).take (usize n).toNat).length ≤ 8 := by rw [List.length_take]; unfold usize; split <;> omega
    have h2 := pow_le h8
    rw [pow8] at h2
    simp only
    omega
  · simp
theorem rtake_bad {len : Nat} {s : RS} {n : Int} (h : s.code ≠ 0) : rtake len s n = (s, false) := by unfold rtake; rw [if_pos h]
theorem ruint_bad {bs : List UInt8} {s : RS} {n : Int} (h : s.code ≠ 0) : ruint bs s n = (s, 0) := by unfold ruint; rw [rtake_bad h]; rfl
theorem rlength_bad {bs : List UInt8} {s : RS} (h : s.code ≠ 0) : rlength bs s = (s, 0) := by unfold rlength; rw [ruint_bad h]; rfl
theorem rbytes_bad {bs : List UInt8} {s : RS} {n : Int} (h : s.code ≠ 0) : rbytes bs s n = (s, []) := by unfold rbytes; rw [rtake_bad h]; rfl
theorem rexpect_bad {bs : List UInt8} {s : RS} {ds : List UInt8} {c : Int} (h : s.code ≠ 0) : rexpect bs s ds c = (s, false) := by unfold rexpect; rw [if_pos h]
theorem ruint_at {bs : List UInt8} {s : RS} {n : Int} (h : s.at_ ≤ bs.length) : (ruint bs s n).1.at_ ≤ bs.length := by rw [ruint_fst]; exact rtake_at h
theorem putB_len {fs : List (Int × Int)} (h : fitA fs = true) : (putB fs).length ≤ 8 * fs.length := by
  induction fs with
  | nil => simp [putB]
  | cons f r ih =>
    simp only [fitA, List.all_cons, Bool.and_eq_true] at h
    have := ih h.2
    have h1 := fits_bnd h.1
    simp only [putB, List.flatMap_cons, List.length_append, be_len, List.length_cons] at this ⊢
    omega
theorem usize_ok {v n : Int} (h : fits v n = true) : usize n = n := by have := fits_bnd h; unfold usize; rw [if_neg (by omega)]
theorem num_be0 {v n : Int} (h0 : 0 ≤ v) (h : fits v n = true) : num 0 (be v n.toNat) = v := by
  rw [num_be v h0, Int.zero_mul, Int.zero_add]
  unfold fits at h
  have := (of_decide_eq_true h).2.2
  exact Int.emod_eq_of_lt h0 this
theorem putB_split {fs : List (Int × Int)} {k : Nat} {f : Int × Int} (h : fs[k]? = some f) : putB fs = putB (fs.take k) ++ (be f.1 f.2.toNat ++ putB (fs.drop (k + 1))) := by
  have hk : k < fs.length := (List.getElem?_eq_some_iff.1 h).1
  have e : fs = fs.take k ++ (f :: fs.drop (k + 1)) := by
    have h1 : fs[k] = f := by rw [List.getElem?_eq_getElem hk] at h; exact Option.some.inj h
    conv => lhs; rw [← List.take_append_drop k fs, List.drop_eq_getElem_cons hk, h1]
  conv => lhs; rw [e]
  simp [putB]
/-- the next field that was written is read -/
theorem ruint_put {fs : List (Int × Int)} {k : Nat} {f : Int × Int} (h : fs[k]? = some f) (hA : fitA fs = true) (hf : okF f) :
    ruint (putB fs) ⟨(putB (fs.take k)).length, 0, 0⟩ f.2 = (⟨(putB (fs.take (k + 1))).length, 0, 0⟩, f.1) := by
  have hfit : fits f.1 f.2 = true := by
    unfold fitA at hA; rw [List.all_eq_true] at hA; exact hA f (List.mem_of_getElem? h)
  have hb := fits_bnd hfit
  have hs := putB_split h
  have hl : (putB fs).length = (putB (fs.take k)).length + f.2.toNat + (putB (fs.drop (k + 1))).length := by rw [hs]; simp only [List.length_append, be_len]; omega
  have hn : (putB (fs.take (k + 1))).length = (putB (fs.take k)).length + f.2.toNat := by rw [putB_next h, List.length_append, be_len]
  have ht : rtake (putB fs).length ⟨(putB (fs.take k)).length, 0, 0⟩ f.2 = (⟨(putB (fs.take k)).length + f.2.toNat, 0, 0⟩, true) := by
    unfold rtake
    rw [if_neg (by simp), if_neg (by omega), if_neg (by simp only; omega)]
  have hc : ((putB fs).drop (putB (fs.take k)).length).take f.2.toNat = be f.1 f.2.toNat := by
    rw [hs, List.drop_left]
    have h9 := List.take_left (l₁ := be f.1 f.2.toNat) (l₂ := putB (fs.drop (k + 1)))
    rw [be_len] at h9
    exact h9
  unfold ruint
  rw [usize_ok hfit, ht]
  simp only [if_true, hc, num_be0 hf.1.1 hfit, hn]
theorem fail_code {s : RS} {c a : Int} (h : c ≠ 0) : (s.fail c a).code ≠ 0 := by unfold RS.fail; split <;> simp_all
theorem fail_at (s : RS) (c a : Int) : (s.fail c a).at_ = s.at_ := by unfold RS.fail; split <;> rfl
theorem wout_len {bs : List UInt8} {fs : List (Int × Int)} (h1 : bs.length ≤ 1000) (h2 : fs.length ≤ 1000) : (wout bs fs).length ≤ 140737488355328 := by
  unfold wout
  cases h : fitA fs with
  | false => simp
  | true => have := putB_len h; simp only [cond_true, List.length_append]; omega
theorem rbytes_at {bs : List UInt8} {s k : Nat} (h : s + k ≤ bs.length) : rbytes bs ⟨s, 0, 0⟩ (k : Int) = (⟨s + k, 0, 0⟩, (bs.drop s).take k) := by
  have ht : rtake bs.length ⟨s, 0, 0⟩ (k : Int) = (⟨s + k, 0, 0⟩, true) := by
    unfold rtake
    rw [if_neg (by simp), if_neg (by omega), if_neg (by simp only; omega)]
    simp
  unfold rbytes
  rw [ht]
  simp
end Go.Pl

namespace Go.Pl
set_option linter.unusedVariables false
set_option linter.unusedSimpArgs false
/-- a command: kind, target's and source's offset, length, data -/
structure Cm where
  k : Int
  to : Int
  fr : Int
  ln : Int
  bs : List UInt8
def okCm (c : Cm) : Prop := I64 c.k ∧ I64 c.to ∧ I64 c.fr ∧ I64 c.ln
def clen (c : Cm) : Int := if c.k = 1 then c.ln else c.bs.length
def csrc (c : Cm) : Int × Int := if c.k = 1 then (c.fr, c.ln) else (0, 0)
theorem clen_i64 {c : Cm} (h : okCm c) (hl : c.bs.length ≤ 9223372036854775807) : I64 (clen c) := by
  have := h.2.2.2
  unfold clen
  split
  · exact this
  · exact ⟨by omega, by omega⟩
def ccheck (c : Cm) : Int :=
  if c.k ≠ 1 ∧ c.k ≠ 2 then 11 else if clen c = 0 then 7 else if valid c.to (clen c) = false then 2 else if c.k = 1 ∧ (0 < c.bs.length ∨ valid c.fr c.ln = false) then 2 else if c.k = 2 ∧ (c.fr ≠ 0 ∨ c.ln ≠ 0) then 2 else 0
def csame (a b : Cm) : Bool := decide (a.k = b.k) && decide (a.to = b.to) && decide (a.fr = b.fr) && decide (a.ln = b.ln) && decide (a.bs = b.bs)
theorem csame_iff {a b : Cm} : csame a b = true ↔ a = b := by
  cases a; cases b
  simp [csame, and_assoc]
instance : DecidableEq Cm := fun a b => decidable_of_iff (csame a b = true) csame_iff
theorem csame_refl (a : Cm) : csame a a = true := csame_iff.2 rfl
/-! parts -/
def cm0 : Cm := ⟨0, 0, 0, 0, []⟩
def cpart (c : Cm) (a b : Int) : Option Cm :=
  if 0 < b ∧ within c.to (clen c) a b = true then some (if c.k = 1 then ⟨1, a, c.fr + (a - c.to), b, []⟩ else ⟨2, a, 0, 0, (c.bs.drop (a - c.to).toNat).take b.toNat⟩) else none
def cpartD (c : Cm) (a b : Int) : Cm := (cpart c a b).getD cm0
def covl (c : Cm) : Bool := decide (c.k = 1) && (overlap c.fr c.ln c.to c.ln).isSome
/-- what a command without an error has -/
theorem ccheck_ok {c : Cm} (h : ccheck c = 0) : (c.k = 1 ∧ clen c = c.ln ∧ c.bs = [] ∧ 0 ≤ c.fr ∧ c.fr + c.ln ≤ 4611686018427387903 ∨ c.k = 2 ∧ clen c = c.bs.length ∧ c.fr = 0 ∧ c.ln = 0) ∧ 0 ≤ c.to ∧ 0 < clen c ∧ c.to + clen c ≤ 4611686018427387903 := by
  unfold ccheck at h
  split at h
  · cases h
  · split at h
    · cases h
    · split at h
      · cases h
      · split at h
        · cases h
        · split at h
          · cases h
          · rename_i h1 h2 h3 h4 h5
            have hv : valid c.to (clen c) = true := by cases hh : valid c.to (clen c) <;> simp_all
            have hv' := valid_t hv
            refine ⟨?_, by omega⟩
            by_cases hk : c.k = 1
            · left
              have h6 : ¬ (0 < c.bs.length ∨ valid c.fr c.ln = false) := fun hh => h4 ⟨hk, hh⟩
              have h7 : valid c.fr c.ln = true := by cases hh : valid c.fr c.ln <;> simp_all
              have h8 := valid_t h7
              exact ⟨hk, by simp [clen, hk], List.length_eq_zero_iff.1 (by omega), by omega⟩
            · right
              have hk2 : c.k = 2 := by omega
              have h6 : ¬ (c.fr ≠ 0 ∨ c.ln ≠ 0) := fun hh => h5 ⟨hk2, hh⟩
              exact ⟨hk2, by simp [clen, hk], by omega, by omega⟩
theorem ccheck_mk1 {t f l : Int} (h : 0 < l ∧ 0 ≤ t ∧ t + l ≤ 4611686018427387903 ∧ 0 ≤ f ∧ f + l ≤ 4611686018427387903) : ccheck ⟨1, t, f, l, []⟩ = 0 := by
  have h1 : valid t l = true := valid_mk (by omega)
  have h2 : valid f l = true := valid_mk (by omega)
  simp only [ccheck, clen, if_true, h1, h2]
  simp
  omega
theorem ccheck_mk2 {t : Int} {bs : List UInt8} (h : 0 < bs.length ∧ 0 ≤ t ∧ t + bs.length ≤ 4611686018427387903) : ccheck ⟨2, t, 0, 0, bs⟩ = 0 := by
  have h1 : valid t bs.length = true := valid_mk (by omega)
  have h2 : bs ≠ [] := fun e => by subst e; simp at h
  simp [ccheck, clen, h1, h2]
theorem cpart_some {c : Cm} {a b : Int} (h : 0 < b ∧ c.to ≤ a ∧ a + b ≤ c.to + clen c) : cpart c a b = some (if c.k = 1 then ⟨1, a, c.fr + (a - c.to), b, []⟩ else ⟨2, a, 0, 0, (c.bs.drop (a - c.to).toNat).take b.toNat⟩) := by
  unfold cpart
  rw [if_pos ⟨h.1, by simp [within]; omega⟩]
theorem cpart_none {c : Cm} {a b : Int} (h : ¬ (0 < b ∧ c.to ≤ a ∧ a + b ≤ c.to + clen c)) : cpart c a b = none := by
  unfold cpart
  rw [if_neg]
  simp [within]; omega
theorem covl_iff {c : Cm} (h : ccheck c = 0) : covl c = true ↔ c.k = 1 ∧ c.fr < c.to + c.ln ∧ c.to < c.fr + c.ln := by
  have := ccheck_ok h
  simp only [covl, overlap, btw, Bool.and_eq_true, decide_eq_true_eq]
  constructor
  · rintro ⟨h1, h2⟩
    split at h2
    · cases h2
    · exact ⟨h1, by omega⟩
  · rintro ⟨h1, h2⟩
    refine ⟨h1, ?_⟩
    rw [if_neg (by omega)]; rfl
/-- a part of a command without an error has none -/
theorem cpart_check {c : Cm} {a b : Int} (hc : ccheck c = 0) (h : 0 < b ∧ c.to ≤ a ∧ a + b ≤ c.to + clen c) : ccheck (cpartD c a b) = 0 ∧ (cpartD c a b).to = a ∧ clen (cpartD c a b) = b ∧ (cpartD c a b).k = c.k := by
  have hk := ccheck_ok hc
  unfold cpartD
  rw [cpart_some h]
  simp only [Option.getD_some]
  by_cases h1 : c.k = 1
  · rw [if_pos h1]
    refine ⟨ccheck_mk1 (by omega), rfl, rfl, h1.symm⟩
  · rw [if_neg h1]
    have h2 : c.k = 2 := by omega
    have hl : ((c.bs.drop (a - c.to).toNat).take b.toNat).length = b.toNat := by rw [List.length_take, List.length_drop]; omega
    refine ⟨ccheck_mk2 (by rw [hl]; omega), rfl, ?_, h2.symm⟩
    simp only [clen]
    rw [if_neg (by decide), hl]
    omega
theorem covl_ref {c : Cm} (h : ccheck c = 0) : covl c = (decide (c.k = 1) && decide (0 < ((overlap c.fr c.ln c.to (clen c)).getD (0, 0)).2)) := by
  have hk := ccheck_ok h
  unfold covl
  by_cases h1 : c.k = 1
  · have e : clen c = c.ln := by simp [clen, h1]
    rw [e]
    congr 1
    cases ho : overlap c.fr c.ln c.to c.ln with
    | none => rfl
    | some x =>
      obtain ⟨x, y⟩ := x
      have := overlap_some ho
      simp
      omega
  · simp [h1]
theorem len_part {c : Cm} {a b : Int} (hc : ccheck c = 0) (h : 0 < b ∧ c.to ≤ a ∧ a + b ≤ c.to + clen c) : (cpartD c a b).bs.length ≤ 9223372036854775807 := by
  have hk := ccheck_ok hc
  unfold cpartD
  rw [cpart_some h]
  simp only [Option.getD_some]
  split
  · simp
  · simp only [List.length_take, List.length_drop]; omega
theorem okCm_part {c : Cm} {a b : Int} (hk : okCm c) (hc : ccheck c = 0) (h : 0 < b ∧ c.to ≤ a ∧ a + b ≤ c.to + clen c) : okCm (cpartD c a b) := by
  have hk := ccheck_ok hc
  unfold cpartD
  rw [cpart_some h]
  simp only [Option.getD_some]
  split
  · simp only [okCm, I64]; omega
  · simp only [okCm, I64]; omega
theorem halves {bs : List UInt8} {t x l : Int} (h1 : t ≤ x) (h2 : x ≤ t + l) (h3 : l = bs.length) : (bs.drop (t - t).toNat).take (x - t).toNat ++ (bs.drop (x - t).toNat).take (t + l - x).toNat = bs := by
  have e1 : (t - t).toNat = 0 := by omega
  rw [e1, List.drop_zero, List.take_of_length_le (l := bs.drop (x - t).toNat) (by rw [List.length_drop]; omega), List.take_append_drop]
end Go.Pl

namespace Go.Cx
set_option linter.unusedVariables false
set_option linter.unusedSimpArgs false
open Go

def encE (e : Int × Int) : List Value := [.int .i64 e.1, .int .i64 e.2]
theorem encE_len (e : Int × Int) : (encE e).length = 2 := rfl
def exV (o : Option (Int × Int)) : List Value := [.int .i64 (o.getD (0, 0)).1, .int .i64 (o.getD (0, 0)).2]
theorem exV_some (e : Int × Int) : exV (some e) = encE e := rfl
theorem exV_none : exV none = [.int .i64 0, .int .i64 0] := rfl
theorem nx (k : Nat) : (some (Value.int .i64 ((k : Int) + 1))) = some (.int .i64 ((k + 1 : Nat) : Int)) := by simp
theorem tdivw {x s : Int} (h1 : 0 ≤ x) (h2 : x ≤ 9223372036854775807) (hs : 1 ≤ s) : IntKind.i64.wrap (x.tdiv s) = x / s := by
  rw [Int.tdiv_eq_ediv_of_nonneg h1]
  have h3 : 0 ≤ x / s := Int.ediv_nonneg h1 (by omega)
  have h4 : x / s ≤ x := Int.ediv_le_self s h1
  exact i64w (by omega) (by omega)
theorem row_set {w : World} {m : Nat} {e : TypeId} {l l' : List Value} (h : w.heap[m]? = some (Blk.row e l).toObj) : (w.setRow m ⟨l'⟩).heap[m]? = some (Blk.row e l').toObj := setRow_heap w m ⟨l⟩ ⟨l'⟩ e (0, 0) h
def encI (x : Int) : List Value := [.int .i64 x]
theorem encI_len (x : Int) : (encI x).length = 1 := rfl
/-- a layout's cells -/
def layV (s b o n : Int) : List Value := [.int .i64 (Pl.lz (Pl.layE s b o n) s), .int .i64 (Pl.lz (Pl.layE s b o n) b), .int .i64 0, .int .i64 (Pl.lz (Pl.layE s b o n) (max o n)),
  .int .i64 (Pl.lz (Pl.layE s b o n) (Pl.layF s o n)), .int .i64 (Pl.lz (Pl.layE s b o n) (2 * Pl.slot s b)), .int .i64 (Pl.lz (Pl.layE s b o n) (Pl.layF s o n + 2 * Pl.slot s b))]
/-- a reader's cells -/
def rdV (p : Option Addr) (n cap : Nat) (s : Pl.RS) : List Value := [.slice p n cap, .int .i64 s.at_, .int .i64 s.code, .int .i64 s.fat]
/-- what a take hands back -/
def tkV (p : Option Addr) (cap a : Nat) (n : Int) (ok : Bool) : Value := bif ok then .slice (slp p cap a 1) n.toNat (cap - a) else .slice none 0 0
def encF (f : Int × Int) : List Value := [.int .u64 f.1, .int .i64 f.2]
theorem encF_len (f : Int × Int) : (encF f).length = 2 := rfl
theorem or8 {y c : Int} (hy : 0 ≤ y ∧ y < 18446744073709551616 ∧ y % 256 = 0) (hc : 0 ≤ c ∧ c < 256) : IntKind.u64.wrap (BitVec.ofInt IntKind.u64.bits y ||| BitVec.ofInt IntKind.u64.bits c).toNat = y + c := by
  have hb : IntKind.u64.bits = 64 := rfl
  obtain ⟨q, hq⟩ : ∃ q : Nat, y = ((2 ^ 8 * q : Nat) : Int) := ⟨(y / 256).toNat, by omega⟩
  obtain ⟨d, hd⟩ : ∃ d : Nat, c = (d : Int) := ⟨c.toNat, by omega⟩
  subst hq hd
  have h1 : (BitVec.ofInt IntKind.u64.bits ((2 ^ 8 * q : Nat) : Int) ||| BitVec.ofInt IntKind.u64.bits (d : Int)).toNat = 2 ^ 8 * q + d := by
    rw [BitVec.toNat_or, BitVec.toNat_ofInt, BitVec.toNat_ofInt]
    have e1 : (((2 ^ 8 * q : Nat) : Int) % (2 ^ IntKind.u64.bits : Nat)).toNat = 2 ^ 8 * q := by rw [hb]; omega
    have e2 : (((d : Nat) : Int) % (2 ^ IntKind.u64.bits : Nat)).toNat = d := by rw [hb]; omega
    rw [e1, e2]
    exact (Nat.two_pow_add_eq_or_of_lt (by omega) q).symm
  rw [h1]
  exact (u64w (by omega) (by omega)).trans (by omega)
theorem shl8 {x : Int} (h : 0 ≤ x ∧ x < 72057594037927936) : IntKind.u64.wrap (x * 2 ^ (min (8 : Int).toNat IntKind.u64.bits)) = x * 256 := by
  have : (2 : Int) ^ (min (8 : Int).toNat IntKind.u64.bits) = 256 := by decide
  rw [this]
  exact u64w (by omega) (by omega)
theorem shrB {v j : Int} {k : Nat} (hv : 0 ≤ v) (hj : j = 8 * k) (hk : k ≤ 8) : IntKind.u8.wrap (v.fdiv (2 ^ (min j.toNat IntKind.u64.bits))) = ((Pl.byt v k).toNat : Int) := by
  have e : IntKind.u64.bits = 64 := rfl
  rw [e, Pl.shr8 hv hj hk, Pl.byt_val]
  simp [IntKind.wrap, IntKind.signed, IntKind.bits]
theorem nx1 (j : Nat) (h : 0 < j) : some (Value.int .i64 ((j : Int) - 1 - 1)) = some (.int .i64 (((j - 1 : Nat) : Int) - 1)) := by congr 2; omega
/-- a slice of bytes that came in -/
structure SB where
  p : Option Addr
  cap : Nat
  bs : List UInt8
def SB.v (s : SB) : Value := .slice s.p s.bs.length s.cap
structure SB.ok (W : World) (s : SB) : Prop where
  rd : Rd W s.p (s.bs.flatMap encB)
  le : s.bs.length ≤ s.cap
  spot : s.cap ≠ 0 → ∀ ad, s.p = some ad → ad.spot = none
  max : s.cap ≤ 9223372036854775807
/-- two numbers and bytes -/
structure OpV where
  k : Int
  n : Int
  d : SB
def encO (o : OpV) : List Value := [.int .i64 o.k, .int .i64 o.n, .slice o.d.p o.d.bs.length o.d.cap]
theorem encO_len (o : OpV) : (encO o).length = 3 := rfl
def okO (W : World) (o : OpV) : Prop := Pl.I64 o.k ∧ Pl.I64 o.n ∧ o.d.ok W
def encS (s : SB) : List Value := [.slice s.p s.bs.length s.cap]
theorem encS_len (s : SB) : (encS s).length = 1 := rfl
/-- a command -/
structure CmdV where
  k : Int
  to : Int
  fr : Int
  ln : Int
  d : SB
def encC (c : CmdV) : List Value := [.int .i64 c.k, .int .i64 c.to, .int .i64 c.fr, .int .i64 c.ln, .slice c.d.p c.d.bs.length c.d.cap]
theorem encC_len (c : CmdV) : (encC c).length = 5 := rfl
def okC (W : World) (c : CmdV) : Prop := Pl.I64 c.k ∧ Pl.I64 c.to ∧ Pl.I64 c.fr ∧ Pl.I64 c.ln ∧ c.d.ok W
/-- a command's cells -/
def cmV (c : Pl.Cm) (p : Option Addr) (n cap : Nat) : List Value := [.int .i64 c.k, .int .i64 c.to, .int .i64 c.fr, .int .i64 c.ln, .slice p n cap]
def CmdV.cm (c : CmdV) : Pl.Cm := ⟨c.k, c.to, c.fr, c.ln, c.d.bs⟩
theorem encC_cm (c : CmdV) : encC c = cmV c.cm c.d.p c.d.bs.length c.d.cap := rfl
theorem okC.cm {W : World} {c : CmdV} (h : okC W c) : Pl.okCm c.cm := ⟨h.1, h.2.1, h.2.2.1, h.2.2.2.1⟩
theorem Acc.cut0 {e es n cap g : Nat} {b : Blk} {p : Option Addr} {cells : List Value} (h : Acc e es p n cap cells g b) : Acc e es p 0 cap [] g b := by
  refine ⟨by simp, ?_⟩
  rcases h.cases' with ⟨h1, h2, h3⟩ | ⟨l, h1, h2, h3, h4, h5⟩
  · exact .inl ⟨rfl, h2, h3⟩
  · exact .inr ⟨l, h1, h2, Nat.zero_le _, h4, by simp⟩
theorem fmTake {α : Type} (f : α → List UInt8) (ps : List α) (k : Nat) : ((ps.take k).flatMap f).length ≤ (ps.flatMap f).length := by
  have e : ps.flatMap f = (ps.take k).flatMap f ++ (ps.drop k).flatMap f := by rw [← List.flatMap_append, List.take_append_drop]
  rw [e, List.length_append]
  omega
theorem SB.ok.ext {w w' : World} {s : SB} (h : s.ok w) (hx : Ext No w w') : s.ok w' := ⟨h.rd.ext0 hx, h.le, h.spot, h.max⟩
end Go.Cx

namespace Go.Pl
set_option linter.unusedVariables false
set_option linter.unusedSimpArgs false
def chCount (c : Cm) (s : Int) : Int := if s < 1 then 0 else (clen c - 1) / s + 1
def cdown (c : Cm) : Bool := covl c && decide (c.fr < c.to)
def chIx (c : Cm) (s k : Int) : Int := bif cdown c then chCount c s - 1 - k else k
def chAt (c : Cm) (s k : Int) : Cm := cpartD c (c.to + chIx c s k * s) (min s (clen c - chIx c s k * s))
def chunks (c : Cm) (s : Int) : List Cm := if chCount c s > 1048576 then [] else (List.range (chCount c s).toNat).map fun k => chAt c s (k : Nat)
def chAll (s : Int) (cs : List Cm) : List Cm := cs.flatMap fun c => chunks c s
theorem chCount_pos {c : Cm} {s : Int} (hc : ccheck c = 0) (hs : 1 ≤ s) : chCount c s = (clen c - 1) / s + 1 ∧ 1 ≤ chCount c s ∧ chCount c s ≤ clen c := by
  have hk := ccheck_ok hc
  have h1 := Int.ediv_nonneg (a := clen c - 1) (b := s) (by omega) (by omega)
  have h2 := Int.ediv_le_self s (show 0 ≤ clen c - 1 by omega)
  unfold chCount
  rw [if_neg (by omega)]
  omega
theorem chCount_nonneg {c : Cm} {s : Int} (hc : ccheck c = 0) : 0 ≤ chCount c s ∧ chCount c s ≤ 4611686018427387904 := by
  have hk := ccheck_ok hc
  by_cases hs : 1 ≤ s
  · have := chCount_pos hc hs; omega
  · unfold chCount; rw [if_pos (by omega)]; omega
theorem chIx_bnd {c : Cm} {s k : Int} (hk : 0 ≤ k ∧ k < chCount c s) : 0 ≤ chIx c s k ∧ chIx c s k < chCount c s := by
  unfold chIx
  cases cdown c <;> simp <;> omega
/-- where chunk number k lies -/
theorem chAt_ok {c : Cm} {s k : Int} (hc : ccheck c = 0) (hk : 0 ≤ k ∧ k < chCount c s) :
    1 ≤ s ∧ 0 ≤ chIx c s k ∧ 0 ≤ chIx c s k * s ∧ chIx c s k * s < clen c ∧ chIx c s k * s ≤ 4611686018427387903 ∧ (0 < min s (clen c - chIx c s k * s) ∧ c.to ≤ c.to + chIx c s k * s ∧ c.to + chIx c s k * s + min s (clen c - chIx c s k * s) ≤ c.to + clen c) := by
  have hx := chIx_bnd hk
  have ho := ccheck_ok hc
  have hs : 1 ≤ s := by
    by_cases h : 1 ≤ s
    · exact h
    · unfold chCount at hk; rw [if_pos (by omega)] at hk; omega
  have hp := chCount_pos hc hs
  have h1 : chIx c s k ≤ (clen c - 1) / s := by omega
  have h2 := Int.mul_le_of_le_ediv (by omega) h1
  have h3 : 0 ≤ chIx c s k * s := Int.mul_nonneg (by omega) (by omega)
  omega
theorem chAt_check {c : Cm} {s k : Int} (hc : ccheck c = 0) (hk : 0 ≤ k ∧ k < chCount c s) : ccheck (chAt c s k) = 0 ∧ (chAt c s k).to = c.to + chIx c s k * s ∧ clen (chAt c s k) = min s (clen c - chIx c s k * s) ∧ (chAt c s k).k = c.k :=
  cpart_check hc (chAt_ok hc hk).2.2.2.2.2
theorem chunks_next {c : Cm} {s : Int} {i : Nat} : (List.range (i + 1)).map (fun k => chAt c s (k : Nat)) = (List.range i).map (fun k => chAt c s (k : Nat)) ++ [chAt c s i] := by
  rw [List.range_succ, List.map_append]; rfl
theorem cpartD_len {c : Cm} {a b : Int} (h : c.bs.length ≤ 140737488355328) : (cpartD c a b).bs.length ≤ c.bs.length := by
  unfold cpartD cpart
  split
  · simp only [Option.getD_some]
    split
    · simp
    · simp only [List.length_take, List.length_drop]; omega
  · simp [cm0]
theorem chAll_app (s : Int) (a b : List Cm) : chAll s (a ++ b) = chAll s a ++ chAll s b := by simp [chAll]
theorem chAll_one (s : Int) (c : Cm) : chAll s [c] = chunks c s := by simp [chAll]
theorem chAll_take (s : Int) (cs : List Cm) (k : Nat) : (chAll s (cs.take k)).length ≤ (chAll s cs).length := by
  have e : chAll s cs = chAll s (cs.take k) ++ chAll s (cs.drop k) := by rw [← chAll_app, List.take_append_drop]
  rw [e, List.length_append]; omega
theorem chunks_of {c : Cm} {s : Int} {i : Nat} (h : (i : Int) = if chCount c s > 1048576 then 0 else chCount c s) : (List.range i).map (fun k => chAt c s (k : Nat)) = chunks c s := by
  unfold chunks
  split
  · rename_i h1
    rw [if_pos h1] at h
    have : i = 0 := by omega
    subst this; rfl
  · rename_i h1
    rw [if_neg h1] at h
    have : (chCount c s).toNat = i := by omega
    rw [this]
theorem chunks_len (c : Cm) (s : Int) : (chunks c s).length ≤ 1048576 := by
  unfold chunks
  split
  · simp
  · simp only [List.length_map, List.length_range]; omega
theorem chunks_count {c : Cm} {s : Int} (h0 : 0 ≤ chCount c s) (h : chCount c s ≤ 1048576) : ((chunks c s).length : Int) = chCount c s := by
  unfold chunks
  rw [if_neg (by omega), List.length_map, List.length_range]
  omega
theorem chunks_get {c : Cm} {s : Int} {k : Nat} (h : chCount c s ≤ 1048576) (hk : (k : Int) < chCount c s) : (chunks c s)[k]? = some (chAt c s k) := by
  unfold chunks
  rw [if_neg (by omega), List.getElem?_map, List.getElem?_range (by omega)]
  rfl
/-- the bytes of the first k chunks -/
def chSum (c : Cm) (s : Int) (k : Nat) : Int := bif cdown c then (if k = 0 then 0 else clen c - (chCount c s - k) * s) else min (k * s) (clen c)
theorem chSum_zero {c : Cm} {s : Int} (hc : ccheck c = 0) : chSum c s 0 = 0 := by
  have := ccheck_ok hc
  unfold chSum
  cases cdown c <;> simp <;> omega
theorem chSum_next {c : Cm} {s : Int} {k : Nat} (hc : ccheck c = 0) (hk : (k : Int) < chCount c s) : chSum c s (k + 1) = chSum c s k + clen (chAt c s k) := by
  have h1 := chAt_ok hc (s := s) (k := k) (by omega)
  have h2 := chAt_check hc (s := s) (k := k) (by omega)
  have h3 := chCount_pos hc h1.1
  have ho := ccheck_ok hc
  rw [h2.2.2.1]
  have e0 := Int.ediv_mul_le (clen c - 1) (show s ≠ 0 by omega)
  have e1 := Int.lt_ediv_add_one_mul_self (clen c - 1) (show 0 < s by omega)
  rw [← h3.1] at e1
  have e2 : (chCount c s - 1) * s = chCount c s * s - s := by rw [Int.sub_mul]; omega
  have e3 : ((clen c - 1) / s) = chCount c s - 1 := by omega
  rw [e3, e2] at e0
  unfold chSum
  unfold chIx at h1 ⊢
  cases hd : cdown c with
  | true =>
    simp only [hd, cond_true] at h1 ⊢
    have e4 : (chCount c s - 1 - (k : Int)) * s = chCount c s * s - s - k * s := by rw [Int.sub_mul, Int.sub_mul]; omega
    have e5 : (chCount c s - ((k + 1 : Nat) : Int)) * s = chCount c s * s - k * s - s := by rw [Int.sub_mul]; push_cast; rw [Int.add_mul]; omega
    have e6 : (chCount c s - (k : Int)) * s = chCount c s * s - k * s := by rw [Int.sub_mul]
    rw [if_neg (by omega), e5, e4]
    by_cases h0 : k = 0
    · subst h0; simp; omega
    · rw [if_neg h0, e6]
      have e7 : s ≤ (k : Int) * s := by
        have : 1 * s ≤ (k : Int) * s := Int.mul_le_mul_of_nonneg_right (by omega) (by omega)
        omega
      omega
  | false =>
    simp only [hd, cond_false] at h1 ⊢
    have e5 : ((k + 1 : Nat) : Int) * s = k * s + s := by push_cast; rw [Int.add_mul]; omega
    rw [e5]
    omega
theorem chSum_end {c : Cm} {s : Int} {k : Nat} (hc : ccheck c = 0) (hs : 1 ≤ s) (hk : (k : Int) = chCount c s) : chSum c s k = clen c := by
  have h3 := chCount_pos hc hs
  have e1 := Int.lt_ediv_add_one_mul_self (clen c - 1) (show 0 < s by omega)
  rw [← h3.1] at e1
  unfold chSum
  cases cdown c with
  | true =>
    simp only [cond_true]
    rw [if_neg (by omega), hk]; simp
  | false =>
    simp only [cond_false]
    rw [hk]; omega
theorem chSum_bnd {c : Cm} {s : Int} {k : Nat} (hc : ccheck c = 0) (hs : 1 ≤ s) (hk : (k : Int) ≤ chCount c s) : 0 ≤ chSum c s k ∧ chSum c s k ≤ clen c := by
  have ho := ccheck_ok hc
  have h3 := chCount_pos hc hs
  have e0 := Int.ediv_mul_le (clen c - 1) (show s ≠ 0 by omega)
  have e3 : ((clen c - 1) / s) = chCount c s - 1 := by omega
  rw [e3] at e0
  unfold chSum
  cases cdown c with
  | true =>
    simp only [cond_true]
    split
    · omega
    · have h4 : 0 ≤ (chCount c s - (k : Int)) * s := Int.mul_nonneg (by omega) (by omega)
      have h5 : (chCount c s - (k : Int)) * s ≤ (chCount c s - 1) * s := Int.mul_le_mul_of_nonneg_right (by omega) (by omega)
      omega
  | false =>
    simp only [cond_false]
    have : 0 ≤ (k : Int) * s := Int.mul_nonneg (by omega) (by omega)
    omega
theorem chAt_fr {c : Cm} {s k : Int} (hc : ccheck c = 0) (hk : 0 ≤ k ∧ k < chCount c s) (h1 : c.k = 1) : (chAt c s k).fr - c.fr = (chAt c s k).to - c.to := by
  have h := chAt_ok hc hk
  unfold chAt cpartD
  rw [cpart_some h.2.2.2.2.2, if_pos h1]
  simp only [Option.getD_some]
  omega
theorem chAll_bnd {s : Int} : ∀ {cs : List Cm}, (∀ c ∈ cs, ccheck c = 0 ∧ chCount c s ≤ 300) → (chAll s cs).length ≤ 300 * cs.length
  | [], _ => by simp [chAll]
  | c :: r, h => by
    have h1 := h c (by simp)
    have h2 := chCount_nonneg (s := s) h1.1
    have h3 := chunks_count (c := c) (s := s) h2.1 (by omega)
    have h4 := chAll_bnd (s := s) (cs := r) fun d hd => h d (by simp [hd])
    have e : chAll s (c :: r) = chunks c s ++ chAll s r := by simp [chAll]
    rw [e, List.length_append, List.length_cons]
    omega
theorem clen_bs {c : Cm} (h : ccheck c = 0) : (c.bs.length : Int) ≤ 4611686018427387903 := by
  have := ccheck_ok h
  rcases this.1 with ⟨_, _, h3, _⟩ | ⟨_, h3, _⟩
  · rw [h3]; simp
  · omega
end Go.Pl

namespace Go.Pl
set_option linter.unusedVariables false
/-- bytes put over others, from o on -/
def put (f : List UInt8) (o : Nat) (d : List UInt8) : List UInt8 := f.take o ++ d ++ f.drop (o + d.length)
/-- what a command writes -/
def wrt (f : List UInt8) (c : Cm) : List UInt8 := if c.k = 1 then (f.drop c.fr.toNat).take c.ln.toNat else c.bs
def ex1 (f : List UInt8) (c : Cm) : List UInt8 := put f c.to.toNat (wrt f c)
def cfits (n : Int) (c : Cm) : Bool := decide (c.to + clen c ≤ n) && (decide (c.k ≠ 1) || decide (c.fr + c.ln ≤ n))
def exs (f : List UInt8) (cs : List Cm) : Option (List UInt8) := if cs.all (cfits f.length) then some (cs.foldl ex1 f) else none
theorem put_length {f d : List UInt8} {o : Nat} (h : o + d.length ≤ f.length) : (put f o d).length = f.length := by
  unfold put; simp only [List.length_append, List.length_take, List.length_drop]; omega
theorem put_get {f d : List UInt8} {o : Nat} (h : o + d.length ≤ f.length) (i : Nat) : (put f o d)[i]? = if o ≤ i ∧ i < o + d.length then d[i - o]? else f[i]? := by
  unfold put
  by_cases h1 : i < o
  · rw [if_neg (by omega), List.append_assoc, List.getElem?_append_left (by rw [List.length_take]; omega), List.getElem?_take, if_pos h1]
  · by_cases h2 : i < o + d.length
    · rw [if_pos (by omega), List.append_assoc, List.getElem?_append_right (by rw [List.length_take]; omega), List.getElem?_append_left (by rw [List.length_take]; omega)]
      congr 1; rw [List.length_take]; omega
    · rw [if_neg (by omega), List.getElem?_append_right (by rw [List.length_append, List.length_take]; omega), List.getElem?_drop]
      congr 1; rw [List.length_append, List.length_take]; omega
theorem wrt_length {f : List UInt8} {c : Cm} (hc : ccheck c = 0) (hf : cfits f.length c = true) : ((wrt f c).length : Int) = clen c := by
  have hk := ccheck_ok hc
  simp only [cfits, Bool.and_eq_true, Bool.or_eq_true, decide_eq_true_eq] at hf
  unfold wrt
  split
  · rw [List.length_take, List.length_drop]; omega
  · omega
theorem ex1_length {f : List UInt8} {c : Cm} (hc : ccheck c = 0) (hf : cfits f.length c = true) : (ex1 f c).length = f.length := by
  have hk := ccheck_ok hc
  have hw := wrt_length hc hf
  simp only [cfits, Bool.and_eq_true, Bool.or_eq_true, decide_eq_true_eq] at hf
  exact put_length (by omega)
theorem exl_length : ∀ {cs : List Cm} {f : List UInt8}, (∀ c ∈ cs, ccheck c = 0) → cs.all (cfits f.length) = true → (cs.foldl ex1 f).length = f.length
  | [], f, _, _ => rfl
  | c :: r, f, hc, hf => by
    simp only [List.all_cons, Bool.and_eq_true] at hf
    have h1 := ex1_length (hc c (by simp)) hf.1
    rw [List.foldl_cons, exl_length (fun d hd => hc d (by simp [hd])) (by rw [h1]; exact hf.2), h1]
/-- the bytes W, which belong at A, are written from p up to q -/
def Up (f W : List UInt8) (A p q : Nat) (g : List UInt8) : Prop := g.length = f.length ∧ ∀ i, g[i]? = if A + p ≤ i ∧ i < A + q then W[i - A]? else f[i]?
theorem Up.none (f W : List UInt8) (A p : Nat) : Up f W A p p f := ⟨rfl, fun i => by rw [if_neg (by omega)]⟩
theorem Up.all {f W g : List UInt8} {A : Nat} (h : Up f W A 0 W.length g) (hA : A + W.length ≤ f.length) : g = put f A W := by
  apply List.ext_getElem?
  intro i
  rw [h.2, put_get hA]
  rfl
theorem piece_get {W : List UInt8} {o m j : Nat} : ((W.drop o).take m)[j]? = if j < m then W[o + j]? else none := by
  rw [List.getElem?_take]
  split
  · rw [List.getElem?_drop]
  · rfl
theorem piece_len {W : List UInt8} {o m : Nat} (h : o + m ≤ W.length) : ((W.drop o).take m).length = m := by
  rw [List.length_take, List.length_drop]; omega
theorem Up.up {f W g : List UInt8} {A p o m : Nat} (h : Up f W A p o g) (hp : p ≤ o) (hm : o + m ≤ W.length) (hA : A + W.length ≤ f.length) : Up f W A p (o + m) (put g (A + o) ((W.drop o).take m)) := by
  have hl := piece_len hm
  refine ⟨by rw [put_length (by rw [hl, h.1]; omega), h.1], fun i => ?_⟩
  rw [put_get (by rw [hl, h.1]; omega), hl, h.2]
  by_cases h1 : A + o ≤ i ∧ i < A + o + m
  · rw [if_pos h1, if_pos (by omega), piece_get, if_pos (by omega)]
    congr 1; omega
  · rw [if_neg h1]
    by_cases h2 : A + p ≤ i ∧ i < A + o
    · rw [if_pos h2, if_pos (by omega)]
    · rw [if_neg h2, if_neg (by omega)]
theorem Up.down {f W g : List UInt8} {A q o m : Nat} (h : Up f W A (o + m) q g) (hq : o + m ≤ q) (hm : o + m ≤ W.length) (hA : A + W.length ≤ f.length) : Up f W A o q (put g (A + o) ((W.drop o).take m)) := by
  have hl := piece_len hm
  refine ⟨by rw [put_length (by rw [hl, h.1]; omega), h.1], fun i => ?_⟩
  rw [put_get (by rw [hl, h.1]; omega), hl, h.2]
  by_cases h1 : A + o ≤ i ∧ i < A + o + m
  · rw [if_pos h1, if_pos (by omega), piece_get, if_pos (by omega)]
    congr 1; omega
  · rw [if_neg h1]
    by_cases h2 : A + (o + m) ≤ i ∧ i < A + q
    · rw [if_pos h2, if_pos (by omega)]
    · rw [if_neg h2, if_neg (by omega)]
/-- what a piece of a copy reads, where nothing was written -/
theorem Up.read {f g : List UInt8} {A F N p q o m : Nat} (h : Up f ((f.drop F).take N) A p q g) (ho : o + m ≤ N) (hd : F + o + m ≤ A + p ∨ A + q ≤ F + o ∨ q ≤ p) : (g.drop (F + o)).take m = (((f.drop F).take N).drop o).take m := by
  apply List.ext_getElem?
  intro j
  rw [piece_get, piece_get]
  split
  · rw [h.2, if_neg (by omega), piece_get, if_pos (by omega)]
    congr 1; omega
  · rfl
/-- the fields of a chunk -/
theorem chAt_eq {c : Cm} {s k : Int} (hc : ccheck c = 0) (hk : 0 ≤ k ∧ k < chCount c s) : chAt c s k = if c.k = 1 then ⟨1, c.to + chIx c s k * s, c.fr + chIx c s k * s, min s (clen c - chIx c s k * s), []⟩ else ⟨2, c.to + chIx c s k * s, 0, 0, (c.bs.drop (chIx c s k * s).toNat).take (min s (clen c - chIx c s k * s)).toNat⟩ := by
  have h := (chAt_ok hc hk).2.2.2.2.2
  have e : c.to + chIx c s k * s - c.to = chIx c s k * s := by omega
  unfold chAt cpartD
  rw [cpart_some h, Option.getD_some, e]
theorem covl_not {c : Cm} (hc : ccheck c = 0) (hk : c.k = 1) (h : covl c = false) : c.fr + c.ln ≤ c.to ∨ c.to + c.ln ≤ c.fr := by
  have ho := ccheck_ok hc
  unfold covl at h
  rw [hk] at h
  simp only [decide_true, Bool.true_and] at h
  unfold overlap btw at h
  grind
/-- one chunk's turn -/
theorem ch_step {c : Cm} {s k : Int} {f g : List UInt8} {p q o m : Nat} (hc : ccheck c = 0) (hk : 0 ≤ k ∧ k < chCount c s) (hf : cfits f.length c = true) (ho : (o : Int) = chIx c s k * s) (hm : (m : Int) = min s (clen c - chIx c s k * s)) (h : Up f (wrt f c) c.to.toNat p q g)
    (hd : c.k = 1 → c.fr.toNat + o + m ≤ c.to.toNat + p ∨ c.to.toNat + q ≤ c.fr.toNat + o ∨ q ≤ p) : ex1 g (chAt c s k) = put g (c.to.toNat + o) (((wrt f c).drop o).take m) := by
  have hck := ccheck_ok hc
  have hb := chAt_ok hc hk
  have hw := wrt_length hc hf
  rw [chAt_eq hc hk]
  rw [← ho] at hb hm ⊢
  rw [← hm] at hb ⊢
  unfold ex1
  by_cases h1 : c.k = 1
  · have hW : wrt f c = (f.drop c.fr.toNat).take c.ln.toNat := by unfold wrt; rw [if_pos h1]
    rw [hW] at h
    rw [if_pos h1, hW]
    have e1 : (c.to + (o : Int)).toNat = c.to.toNat + o := by omega
    have e2 : (c.fr + (o : Int)).toNat = c.fr.toNat + o := by omega
    simp only [wrt, e1, e2, Int.toNat_natCast, if_true]
    rw [h.read (by omega) (hd h1)]
  · have hW : wrt f c = c.bs := by unfold wrt; rw [if_neg h1]
    rw [if_neg h1, hW]
    have e1 : (c.to + (o : Int)).toNat = c.to.toNat + o := by omega
    simp only [wrt, e1, Int.toNat_natCast]
    rfl
theorem foldRange {c : Cm} {s : Int} {f : List UInt8} (K : Nat) : ((List.range (K + 1)).map fun k => chAt c s (k : Nat)).foldl ex1 f = ex1 (((List.range K).map fun k => chAt c s (k : Nat)).foldl ex1 f) (chAt c s K) := by
  rw [chunks_next, List.foldl_append]; rfl
theorem count_mul {c : Cm} {s : Int} (hc : ccheck c = 0) (hs : 1 ≤ s) : (chCount c s - 1) * s < clen c ∧ clen c ≤ chCount c s * s := by
  have hk := ccheck_ok hc
  have hp := (chCount_pos hc hs).1
  have h1 := Int.mul_ediv_add_emod (clen c - 1) s
  have h2 := Int.emod_nonneg (clen c - 1) (show s ≠ 0 by omega)
  have h3 := Int.emod_lt_of_pos (clen c - 1) (show 0 < s by omega)
  have e : chCount c s - 1 = (clen c - 1) / s := by omega
  have e2 : chCount c s * s = (chCount c s - 1) * s + s := by rw [Int.sub_mul, Int.one_mul]; omega
  rw [e2, e, Int.mul_comm]
  omega
theorem ch_upward {c : Cm} {s : Int} {f : List UInt8} (hc : ccheck c = 0) (hs : 1 ≤ s) (hf : cfits f.length c = true) (hdn : cdown c = false) : ∀ K : Nat, (K : Int) ≤ chCount c s → Up f (wrt f c) c.to.toNat 0 (min (K * s) (clen c)).toNat (((List.range K).map fun k => chAt c s (k : Nat)).foldl ex1 f)
  | 0, _ => by
    have e : (min (((0 : Nat) : Int) * s) (clen c)).toNat = 0 := by simp; omega
    rw [e]
    exact Up.none _ _ _ _
  | K + 1, hK => by
    have hck := ccheck_ok hc
    have hw := wrt_length hc hf
    have ih := ch_upward hc hs hf hdn K (by omega)
    have hkk : (0 : Int) ≤ (K : Int) ∧ (K : Int) < chCount c s := by omega
    have hb := chAt_ok hc hkk
    have hix : chIx c s K = K := by unfold chIx; rw [hdn]; rfl
    rw [hix] at hb
    obtain ⟨o, ho⟩ : ∃ o : Nat, (K : Int) * s = o := ⟨((K : Int) * s).toNat, by omega⟩
    obtain ⟨m, hm⟩ : ∃ m : Nat, min s (clen c - K * s) = m := ⟨(min s (clen c - K * s)).toNat, by omega⟩
    have e1 : (min ((K : Int) * s) (clen c)).toNat = o := by omega
    have e2 : (((K + 1 : Nat) : Int) * s) = o + s := by rw [Int.natCast_add, Int.add_mul, ho]; simp
    have e3 : (min (((K + 1 : Nat) : Int) * s) (clen c)).toNat = o + m := by rw [e2]; omega
    have hcf := hf
    simp only [cfits, Bool.and_eq_true, Bool.or_eq_true, decide_eq_true_eq] at hcf
    rw [e1] at ih
    rw [e3, foldRange, ch_step hc hkk hf (o := o) (m := m) (by rw [hix, ho]) (by rw [hix, hm]) ih ?_]
    · exact ih.up (by omega) (by omega) (by omega)
    · intro h1
      by_cases hov : covl c = true
      · have : ¬ c.fr < c.to := by
          intro hlt
          unfold cdown at hdn
          rw [hov] at hdn
          simp [hlt] at hdn
        right; left; omega
      · have := covl_not hc h1 (by simpa using hov)
        omega
theorem ch_downward {c : Cm} {s : Int} {f : List UInt8} (hc : ccheck c = 0) (hs : 1 ≤ s) (hf : cfits f.length c = true) (hdn : cdown c = true) : ∀ K : Nat, (K : Int) ≤ chCount c s → Up f (wrt f c) c.to.toNat (min ((chCount c s - K) * s) (clen c)).toNat (clen c).toNat (((List.range K).map fun k => chAt c s (k : Nat)).foldl ex1 f)
  | 0, _ => by
    have hcm := count_mul hc hs
    have e : (min ((chCount c s - ((0 : Nat) : Int)) * s) (clen c)).toNat = (clen c).toNat := by simp only [Int.natCast_zero, Int.sub_zero]; omega
    rw [e]
    exact Up.none _ _ _ _
  | K + 1, hK => by
    have hck := ccheck_ok hc
    have hw := wrt_length hc hf
    have ih := ch_downward hc hs hf hdn K (by omega)
    have hkk : (0 : Int) ≤ (K : Int) ∧ (K : Int) < chCount c s := by omega
    have hb := chAt_ok hc hkk
    have hix : chIx c s K = chCount c s - 1 - K := by unfold chIx; rw [hdn]; rfl
    rw [hix] at hb
    obtain ⟨o, ho⟩ : ∃ o : Nat, (chCount c s - 1 - K) * s = o := ⟨((chCount c s - 1 - K) * s).toNat, by omega⟩
    obtain ⟨m, hm⟩ : ∃ m : Nat, min s (clen c - (chCount c s - 1 - K) * s) = m := ⟨(min s (clen c - (chCount c s - 1 - K) * s)).toNat, by omega⟩
    have e2 : (chCount c s - (K : Int)) * s = o + s := by rw [← ho, Int.sub_mul, Int.sub_mul, Int.sub_mul]; omega
    have e1 : (min ((chCount c s - (K : Int)) * s) (clen c)).toNat = o + m := by rw [e2]; omega
    have e4 : (chCount c s - ((K + 1 : Nat) : Int)) * s = o := by rw [← ho]; congr 1; omega
    have e3 : (min ((chCount c s - ((K + 1 : Nat) : Int)) * s) (clen c)).toNat = o := by rw [e4]; omega
    have hcf := hf
    simp only [cfits, Bool.and_eq_true, Bool.or_eq_true, decide_eq_true_eq] at hcf
    have hlt : c.fr < c.to := by unfold cdown at hdn; simp only [Bool.and_eq_true, decide_eq_true_eq] at hdn; exact hdn.2
    rw [e1] at ih
    rw [e3, foldRange, ch_step hc hkk hf (o := o) (m := m) (by rw [hix, ho]) (by rw [hix, hm]) ih ?_]
    · exact ih.down (by omega) (by omega) (by omega)
    · intro h1
      left; omega
theorem chunks_all {c : Cm} {s n : Int} (hc : ccheck c = 0) (hs : 1 ≤ s) (hn : chCount c s ≤ 1048576) : (chunks c s).all (cfits n) = cfits n c := by
  have hck := ccheck_ok hc
  have hp := chCount_pos hc hs
  have hcm := count_mul hc hs
  have hone : ∀ k : Int, (0 ≤ k ∧ k < chCount c s) → cfits n (chAt c s k) = (decide (c.to + chIx c s k * s + min s (clen c - chIx c s k * s) ≤ n) && (decide (c.k ≠ 1) || decide (c.fr + chIx c s k * s + min s (clen c - chIx c s k * s) ≤ n))) := fun k hk => by
    have h1 := chAt_check hc hk
    unfold cfits
    rw [h1.2.1, h1.2.2.1, h1.2.2.2]
    by_cases hk1 : c.k = 1
    · rw [chAt_eq hc hk, if_pos hk1]
    · simp [hk1]
  rw [Bool.eq_iff_iff, List.all_eq_true]
  unfold chunks
  rw [if_neg (by omega)]
  constructor
  · intro h
    obtain ⟨k, hkk, hix⟩ : ∃ k : Int, (0 ≤ k ∧ k < chCount c s) ∧ chIx c s k = chCount c s - 1 := by
      by_cases hd : cdown c = true
      · exact ⟨0, by omega, by unfold chIx; rw [hd]; simp⟩
      · exact ⟨chCount c s - 1, by omega, by unfold chIx; simp only [Bool.not_eq_true] at hd; rw [hd]; rfl⟩
    have h2 := h (chAt c s k) (List.mem_map.2 ⟨k.toNat, by simp; omega, by rw [Int.toNat_of_nonneg hkk.1]⟩)
    rw [hone k hkk, hix] at h2
    simp only [cfits, Bool.and_eq_true, Bool.or_eq_true, decide_eq_true_eq] at h2 ⊢
    have e2 : chCount c s * s = (chCount c s - 1) * s + s := by rw [Int.sub_mul, Int.one_mul]; omega
    generalize (chCount c s - 1) * s = Z at *
    omega
  · intro h d hd
    obtain ⟨k, hkr, rfl⟩ := List.mem_map.1 hd
    have hkk : (0 : Int) ≤ (k : Int) ∧ (k : Int) < chCount c s := by have := List.mem_range.1 hkr; omega
    have hb := chAt_ok hc hkk
    rw [hone k hkk]
    simp only [cfits, Bool.and_eq_true, Bool.or_eq_true, decide_eq_true_eq] at h ⊢
    omega
/-- the chunks one after the other do what the command does -/
theorem chunks_exs {c : Cm} {s : Int} {f : List UInt8} (hc : ccheck c = 0) (hs : 1 ≤ s) (hn : chCount c s ≤ 1048576) : exs f (chunks c s) = exs f [c] := by
  have hck := ccheck_ok hc
  have hp := chCount_pos hc hs
  have hcm := count_mul hc hs
  unfold exs
  rw [chunks_all hc hs hn]
  have e1 : [c].all (cfits f.length) = cfits f.length c := by simp
  rw [e1]
  by_cases hf : cfits f.length c = true
  · rw [if_pos hf, if_pos hf]
    have hw := wrt_length hc hf
    have hcf := hf
    simp only [cfits, Bool.and_eq_true, Bool.or_eq_true, decide_eq_true_eq] at hcf
    have ec : chunks c s = (List.range (chCount c s).toNat).map fun k => chAt c s (k : Nat) := by unfold chunks; rw [if_neg (by omega)]
    have eN : (((chCount c s).toNat : Nat) : Int) = chCount c s := by omega
    have hU : Up f (wrt f c) c.to.toNat 0 (wrt f c).length ((chunks c s).foldl ex1 f) := by
      rw [ec]
      by_cases hd : cdown c = true
      · have h := ch_downward hc hs hf hd (chCount c s).toNat (by omega)
        rw [eN] at h
        have e3 : (min ((chCount c s - chCount c s) * s) (clen c)).toNat = 0 := by rw [Int.sub_self, Int.zero_mul]; omega
        have e4 : (clen c).toNat = (wrt f c).length := by omega
        rw [e3, e4] at h
        exact h
      · have h := ch_upward hc hs hf (by simpa using hd) (chCount c s).toNat (by omega)
        rw [eN] at h
        have e3 : (min (chCount c s * s) (clen c)).toNat = (wrt f c).length := by omega
        rw [e3] at h
        exact h
    rw [hU.all (by omega)]
    rfl
  · rw [if_neg hf, if_neg hf]
end Go.Pl

namespace Go.Pl
theorem chunks_ok {c : Cm} {s : Int} (hc : ccheck c = 0) : ∀ d ∈ chunks c s, ccheck d = 0 := fun d hd => by
  unfold chunks at hd
  split at hd
  · cases hd
  · obtain ⟨k, hk, rfl⟩ := List.mem_map.1 hd
    have := List.mem_range.1 hk
    exact (chAt_check hc (by omega)).1
theorem exs_le {f : List UInt8} {c : Cm} (hc : ccheck c = 0) : ((exs f [c]).getD []).length ≤ f.length := by
  unfold exs
  split
  · rename_i h
    simp only [List.all_cons, List.all_nil, Bool.and_true] at h
    simp only [Option.getD_some, List.foldl_cons, List.foldl_nil]
    rw [ex1_length hc h]
    exact Nat.le_refl _
  · simp
end Go.Pl

namespace Go.Cx
set_option linter.unusedVariables false
set_option linter.unusedSimpArgs false
open Go

theorem Acc.rdM {e es n cap g : Nat} {b : Blk} {p : Option Addr} {cells : List Value} {w0 w : World} {X : Bs} {L : List (Nat × Blk)} (h : Acc e es p n cap cells g b) (hm : Mem w0 w X L) (hin : (g, b) ∈ L) : Rd w p cells := by
  obtain ⟨j, hj⟩ := List.getElem?_of_mem hin
  exact h.rd hm j ((blk_eq L j).trans hj)
/-- the data of a command that was made here lie in a block of the bag -/
def Held (B : List (Nat × Blk)) (u8 : Nat) (s : SB) : Prop := ∃ g b, (g, b) ∈ B ∧ Acc u8 1 s.p s.bs.length s.cap (s.bs.flatMap encB) g b
theorem Held.rd {B L : List (Nat × Blk)} {u8 : Nat} {s : SB} {w0 w : World} {X : Bs} (h : Held B u8 s) (hm : Mem w0 w X L) (hs : ∀ e, e ∈ B → e ∈ L) : Rd w s.p (s.bs.flatMap encB) := by
  obtain ⟨g, b, h1, h2⟩ := h
  exact h2.rdM hm (hs _ h1)
theorem Held.mono {B C : List (Nat × Blk)} {u8 : Nat} {s : SB} (h : Held B u8 s) (hs : ∀ e, e ∈ B → e ∈ C) : Held C u8 s := by
  obtain ⟨g, b, h1, h2⟩ := h
  exact ⟨g, b, hs _ h1, h2⟩
theorem Held.left {B C : List (Nat × Blk)} {u8 : Nat} {s : SB} (h : Held B u8 s) : Held (B ++ C) u8 s := h.mono fun e he => List.mem_append_left _ he
theorem Held.right {B C : List (Nat × Blk)} {u8 : Nat} {s : SB} (h : Held C u8 s) : Held (B ++ C) u8 s := h.mono fun e he => List.mem_append_right _ he
theorem Held.le {B : List (Nat × Blk)} {u8 : Nat} {s : SB} (h : Held B u8 s) : s.bs.length ≤ s.cap := by
  obtain ⟨g, b, h1, h2⟩ := h
  exact h2.le
theorem Held.spot {B : List (Nat × Blk)} {u8 : Nat} {s : SB} (h : Held B u8 s) (hc : s.cap ≠ 0) : ∀ ad, s.p = some ad → ad.spot = none := by
  obtain ⟨g, b, h1, h2⟩ := h
  exact h2.spot hc
section
variable {w0 w w' : World} {X : Bs} {L N1 N2 : List (Nat × Blk)}
/-- a call that hands back blocks: some are named, the others go into the bag -/
theorem Mem.callT (h : Mem w0 w X L) (hc : Mem w w' No (N1 ++ N2)) : Mem w0 w' X (N1 ++ (L ++ N2)) := by
  refine (h.callN hc).perm ?_
  rw [List.append_assoc]
  exact List.Perm.append_left _ List.perm_append_comm
theorem Mem.callT1 {q : Nat × Blk} (h : Mem w0 w X L) (hc : Mem w w' No (q :: N2)) : Mem w0 w' X (q :: (L ++ N2)) := Mem.callT (N1 := [q]) h hc
/-- some of the named blocks, and the bag behind c of them -/
theorem Mem.pickT (h : Mem w0 w X L) (ks : List Nat) (c : Nat) (hk : (freeL ks && ks.all fun k => Nat.blt k c) = true) : Mem w0 w X (pickL L ks ++ L.drop c) := by
  simp only [Bool.and_eq_true, List.all_eq_true, Nat.blt_eq] at hk
  have h1 := h.pick ks hk.1
  refine ⟨h.os, h.tape, h.output, h.size, h.same, fun p hp hr => ?_, fun p hp hr => ?_, ?_⟩
  · rcases List.mem_append.1 hp with hp | hp
    · exact h1.own p hp hr
    · exact h.own p (List.mem_of_mem_drop hp) hr
  · rcases List.mem_append.1 hp with hp | hp
    · exact h1.fresh p hp hr
    · exact h.fresh p (List.mem_of_mem_drop hp) hr
  · rw [reals_app, List.nodup_append]
    have hd : Mem w0 w X (L.drop c) := h.drop (List.drop_sublist c L)
    refine ⟨h1.nodup, hd.nodup, ?_⟩
    intro a ha b hb e
    subst e
    obtain ⟨x, hx, hxr⟩ := mem_reals.1 ha
    obtain ⟨y, hy, hyr⟩ := mem_reals.1 hb
    obtain ⟨k, hkm, hkb⟩ := pickL_mem L ks _ hx
    have hlt := hk.2 k hkm
    obtain ⟨j, hj, hje⟩ := List.getElem_of_mem hy
    rw [List.getElem_drop] at hje
    have hjb : blk L (c + j) = some (a, y) := by rw [blk_eq, ← hje]; exact List.getElem?_eq_getElem (by simp at hj; omega)
    exact reals_ne L k (c + j) a a x y h.nodup hkb hjb hxr hyr (by omega) rfl
end
theorem cmds_get {xs : List CmdV} {i : Nat} {x : CmdV} (h : xs[i]? = some x) (j : Nat) (hj : j < 5) : (xs.flatMap encC)[i * 5 + j]? = (encC x)[j]? := fm_get encC_len xs i j x h hj
theorem Acc.lenE {α : Type} {enc : α → List Value} {e es n cap g : Nat} {b : Blk} {p : Option Addr} {xs : List α} (h : Acc e es p n cap (xs.flatMap enc) g b) (he : ∀ x, (enc x).length = es) (h0 : 0 < es) : n = xs.length := by
  have := h.len
  rw [fm_length he] at this
  exact (Nat.eq_of_mul_eq_mul_right h0 this).symm
/-- one of the bag's -/
theorem Acc.held {u8 n cap g : Nat} {b : Blk} {p : Option Addr} {bs : List UInt8} (h : Acc u8 1 p n cap (bs.flatMap encB) g b) {B : List (Nat × Blk)} (hin : (g, b) ∈ B) : Held B u8 ⟨p, cap, bs⟩ := ⟨g, b, hin, by rw [← h.lenB]; exact h⟩
/-- a command's cells, as an element -/
def mkC (c : Pl.Cm) (p : Option Addr) (cap : Nat) : CmdV := ⟨c.k, c.to, c.fr, c.ln, ⟨p, cap, c.bs⟩⟩
theorem mkC_cm (c : Pl.Cm) (p : Option Addr) (cap : Nat) : (mkC c p cap).cm = c := rfl
theorem encC_mk (c : Pl.Cm) (p : Option Addr) (cap : Nat) : encC (mkC c p cap) = cmV c p c.bs.length cap := rfl
theorem oneC : ∀ xs : List CmdV, (xs.flatMap encC).all (·.oneCell') = true
  | [] => rfl
  | x :: r => by simp only [List.flatMap_cons, List.all_append, oneC r, Bool.and_true]; rfl
theorem lenC (xs : List CmdV) : (xs.flatMap encC).length = xs.length * 5 := fm_length encC_len xs
theorem Mem.stow {w0 w : World} {X : Bs} {L : List (Nat × Blk)} (h : Mem w0 w X L) (k : Nat) {q : Nat × Blk} (hk : blk L k = some q) : Mem w0 w X (L.eraseIdx k ++ [q]) :=
  h.perm ((perm_get L k q hk).trans (List.perm_append_comm (l₁ := [q])))
theorem heldAll {B C : List (Nat × Blk)} {u8 : Nat} {xs : List CmdV} (h : ∀ x ∈ xs, Held B u8 x.d) (hs : ∀ e, e ∈ B → e ∈ C) : ∀ x ∈ xs, Held C u8 x.d := fun x hx => (h x hx).mono hs
theorem heldAdd {B : List (Nat × Blk)} {q : Nat × Blk} {u8 : Nat} {xs : List CmdV} {x : CmdV} (h : ∀ x ∈ xs, Held B u8 x.d) (hx : Held (B ++ [q]) u8 x.d) : ∀ y ∈ xs ++ [x], Held (B ++ [q]) u8 y.d := fun y hy => by
  rcases List.mem_append.1 hy with hy | hy
  · exact (h y hy).left
  · rw [List.mem_singleton.1 hy]; exact hx
theorem heldApp {B C : List (Nat × Blk)} {u8 : Nat} {xs ys : List CmdV} (h : ∀ x ∈ xs, Held B u8 x.d) (h' : ∀ x ∈ ys, Held C u8 x.d) : ∀ y ∈ xs ++ ys, Held (B ++ C) u8 y.d := fun y hy => by
  rcases List.mem_append.1 hy with hy | hy
  · exact (h y hy).left
  · exact (h' y hy).right
theorem cms_ne {xs ys : List CmdV} {k : Nat} {x y : CmdV} (hi : xs[k]? = some x) (hj : ys[k]? = some y) (h : Pl.csame x.cm y.cm = false) : xs.map CmdV.cm ≠ ys.map CmdV.cm := fun e => by
  have h9 : (xs.map CmdV.cm)[k]? = (ys.map CmdV.cm)[k]? := by rw [e]
  rw [List.getElem?_map, List.getElem?_map, hi, hj] at h9
  rw [Pl.csame_iff.2 (Option.some.inj h9)] at h
  cases h
theorem cm_at {xs : List CmdV} {ys : List Pl.Cm} {k : Nat} {x : CmdV} {d : Pl.Cm} (h : xs.map CmdV.cm = ys) (hi : xs[k]? = some x) (hd : ys[k]? = some d) : x.cm = d := by
  have h8 : (xs.map CmdV.cm)[k]? = some x.cm := by rw [List.getElem?_map, hi]; rfl
  rw [h, hd] at h8
  exact (Option.some.inj h8).symm
end Go.Cx

namespace Go.Cx
set_option linter.unusedVariables false
set_option linter.unusedSimpArgs false
open Go

/-- where a round goes on, the deferred calls turning with the state -/
def Ks.lpD {ι : Type} (k : Ks) (Sx : ι → List (Nat × Value)) (M : ι → World → Prop) (μ : ι → Nat) (Dx : ι → List Deferred) (x : ι) (n : Nat) : Ks := { k with norm := fun a w => ∃ y, μ y < μ x ∧ M y w ∧ Fr a n (Dx y) (Sx y) }
section
variable {P : Program} {r : Option Nat} {c : Code} {k : Ks} {n : Nat} {D : List Deferred} {S : List (Nat × Value)} {w : World}
theorem gr_lpD {ι : Type} {Sx : ι → List (Nat × Value)} {M : ι → World → Prop} {μ : ι → Nat} {Dx : ι → List Deferred} {x : ι} {m : Nat} (h : GR k n D S w) : GR (k.lpD Sx M μ Dx x m) n D S w := h
theorem gx_lpD {ι : Type} {Sx : ι → List (Nat × Value)} {M : ι → World → Prop} {μ : ι → Nat} {Dx : ι → List Deferred} {x : ι} {m i : Nat} (h : GX k i n D S w) : GX (k.lpD Sx M μ Dx x m) i n D S w := h
theorem HW_loopD {ι : Type} {b : Code} (hc : lopC c = some b) {ks : List Nat} {T : List (Nat × Value)} (hp : Pick S ks T) (Vx : ι → List (Nat × Value)) (M : ι → World → Prop) (μ : ι → Nat) (Dx : ι → List Deferred) (x0 : ι) (h0 : M x0 w) (hD : Dx x0 = D) (hS : Sub (Vx x0) S)
    (round : ∀ x w, M x w → HW P r (lopB c) (k.lpD (fun x => Vx x ++ T) M μ Dx x n) n (Dx x) (Vx x ++ T) w) : HW P r c k n D S w := fun a hf => by
  let Sx : ι → List (Nat × Value) := fun x => Vx x ++ T
  let Q : Act → World → Nat → Prop := fun a w m => ∃ x, μ x = m ∧ M x w ∧ Fr a n (Dx x) (Sx x)
  let ms : Act → World → Nat := fun a w => open Classical in if h : ∃ m, Q a w m then Classical.choose (least _ h) else 0
  refine W_loop hc (fun a w => ∃ x, M x w ∧ Fr a n (Dx x) (Sx x)) ms ⟨x0, h0, by rw [hD]; exact hf.sub (hS.app hp.sub).look⟩ ?_
  rintro a w ⟨x, hM, hF⟩
  have hex : ∃ m, Q a w m := ⟨μ x, x, rfl, hM, hF⟩
  have hms : ms a w = Classical.choose (least _ hex) := by simp only [ms]; rw [dif_pos hex]
  obtain ⟨⟨y, hy, hMy, hFy⟩, _⟩ := Classical.choose_spec (least _ hex)
  refine W_mono (round y w hMy a hFy) ?_ (fun _ _ h => h) (fun _ _ _ h => h)
  rintro a' w' ⟨z, hlt, hMz, hFz⟩
  refine ⟨⟨z, hMz, hFz⟩, ?_⟩
  have hex' : ∃ m, Q a' w' m := ⟨μ z, z, rfl, hMz, hFz⟩
  have hms' : ms a' w' = Classical.choose (least _ hex') := by simp only [ms]; rw [dif_pos hex']
  have hle := (Classical.choose_spec (least _ hex')).2 (μ z) ⟨z, rfl, hMz, hFz⟩
  rw [hms', hms]
  omega
theorem nextD {ι : Type} {Sx : ι → List (Nat × Value)} {M : ι → World → Prop} {μ : ι → Nat} {Dx : ι → List Deferred} {x : ι} (y : ι) (hμ : μ y < μ x) (hM : M y w) (hD : Dx y = D) (hS : Sub (Sx y) S) : GN (k.lpD Sx M μ Dx x n) n D S w :=
  fun _ hf => ⟨y, hμ, hM, by rw [hD]; exact hf.sub hS.look⟩
end
/-- without the blocks of deferred calls -/
def isDef : Blk → Bool | .obj (.deferred _) => true | _ => false
def noDef (L : List (Nat × Blk)) : List (Nat × Blk) := L.filter fun e => !isDef e.2
theorem noDef_sub (L : List (Nat × Blk)) : (noDef L).Sublist L := List.filter_sublist
theorem mem_noDef {L : List (Nat × Blk)} {g : Nat} {b : Blk} (h : (g, b) ∈ L) (hb : isDef b = false) : (g, b) ∈ noDef L := List.mem_filter.2 ⟨h, by simp [hb]⟩
theorem noDef_app (A B : List (Nat × Blk)) : noDef (A ++ B) = noDef A ++ noDef B := List.filter_append ..
theorem Held.noDef {B : List (Nat × Blk)} {u8 : Nat} {s : SB} (h : Held B u8 s) : Held (noDef B) u8 s := by
  obtain ⟨g, b, h1, h2⟩ := h
  refine ⟨g, b, mem_noDef h1 ?_, h2⟩
  rcases h2.cases' with ⟨_, _, h3⟩ | ⟨l, _, h3, _⟩ <;> rw [h3] <;> rfl
def endW : List Nat → World → World
  | [], w => w
  | r :: rs, w => endW rs { w with heap := w.heap.setIfInBounds r (.deferred none) }
section
variable {P : Program} {n : Nat} {S : List (Nat × Value)} {w w0 : World} {X : Bs} {L : List (Nat × Blk)}
theorem leaves_marks {fn : Func} {tmps : Array Value} {R : Ending → World → Prop} : ∀ (rs : List Nat) (w : World), (∀ r ∈ rs, w.heap[r]? = some (.deferred (some []))) → rs.Nodup → LeavesInM (Fw none) 0 P fn tmps R [] .returning (endW rs w) → LeavesInM (Fw none) 0 P fn tmps R (rs.map mark) .returning w
  | [], _, _, _, h => h
  | r :: rs, w, hin, hn, h => by
    rw [List.nodup_cons] at hn
    refine ⟨by simp, .inl ⟨r, _, rfl, run_take (hin r (by simp)), leaves_marks rs _ (fun s hs => ?_) hn.2 h⟩⟩
    have hne : r ≠ s := fun e => hn.1 (e ▸ hs)
    show (w.heap.setIfInBounds r (.deferred none))[s]? = _
    rw [Array.getElem?_setIfInBounds_ne hne]
    exact hin s (by simp [hs])
theorem Mem.endW : ∀ (rs : List Nat) (w : World), Mem w0 w X (noDef L) → (∀ r ∈ rs, (X r ∨ w0.heap.size ≤ r) ∧ ∀ p, p ∈ noDef L → p.2.real = true → p.1 ≠ r) → Mem w0 (Cx.endW rs w) X (noDef L)
  | [], _, h, _ => h
  | r :: rs, w, h, hr => by
    refine Mem.endW rs _ (h.turn (Y := fun k => k = r) ⟨rfl, rfl, rfl, by simp, fun k _ hk => ?_⟩ (fun k hk => hk ▸ (hr r (by simp)).1) fun p hp hre => (hr r (by simp)).2 p hp hre) fun s hs => hr s (by simp [hs])
    show (w.heap.setIfInBounds r (.deferred none))[k]? = _
    rw [Array.getElem?_setIfInBounds_ne (fun e => hk e.symm)]
/-- .. behind ranges, whatever their number -/
theorem finN {K : Act → World → Prop} {fn : Func} {R : Value → World → Prop} {rv : List ResultVar} {vs : List Value} {v : Value} {rs : List Nat} (hk : ∀ a w, FinM P fn R a w → K a w) (hr : fn.results.toList = rv) (hm : Mem w0 w X L) (hin : ∀ r ∈ rs, (r, dblk (some [])) ∈ L) (hn : rs.Nodup) (ht : Tup vs v) {L' : List (Nat × Blk)} (hL : noDef L = L')
    (h : ∀ w', Mem w0 w' X L' → Rs P w' S rv vs ∧ R v w') : GoD K n (rs.map mark) S w := fun a hf => by
  subst hL
  rw [← ht.eq] at h
  refine hk a w ?_
  unfold FinM
  rw [hf.defers]
  have hmn : Mem w0 w X (noDef L) := hm.drop (noDef_sub L)
  have hend := Mem.endW (L := L) rs w hmn fun r hr => ⟨hm.fresh _ (hin r hr) rfl, fun p hp hre e => by
    have h1 := List.mem_filter.1 hp
    have h2 := hm.own _ h1.1 hre
    have h3 := hm.own _ (hin r hr) rfl
    simp only at h3
    rw [e, h3] at h2
    have h4 := Option.some.inj h2
    cases hb : p.2 with
    | gap => rw [hb] at hre; cases hre
    | row t l => rw [hb] at h4; cases h4
    | obj o =>
      rw [hb] at h4
      have h5 := h1.2
      rw [hb] at h5
      have h6 : o = .deferred (some []) := h4.symm
      subst h6
      simp [isDef] at h5⟩
  refine leaves_marks rs w (fun r hr => hm.own _ (hin r hr) rfl) hn ?_
  obtain ⟨h1, h2⟩ := h _ hend
  exact ⟨_, h1.results hr hf, _, rfl, h2⟩
end
theorem Mem.headNe {w0 w : World} {X : Bs} {L : List (Nat × Blk)} {r s : Nat} {b c : Blk} (h : Mem w0 w X ((r, b) :: L)) (hs : (s, c) ∈ L) (hb : b.real = true := by rfl) (hc : c.real = true := by rfl) : r ≠ s := fun e => by
  have hn := h.nodup
  rw [reals_cons, if_pos hb, List.nodup_cons] at hn
  exact hn.1 (mem_reals.2 ⟨c, by simp only; rw [e]; exact hs, hc⟩)
theorem marksAdd {T : List (Nat × Blk)} {rs : List Nat} {r : Nat} (h : ∀ s ∈ rs, (s, dblk (some [])) ∈ T) : ∀ s ∈ r :: rs, (s, dblk (some [])) ∈ T ++ [(r, dblk (some []))] := fun s hs => by
  rcases List.mem_cons.1 hs with rfl | hs
  · simp
  · exact List.mem_append_left _ (h s hs)
theorem noDef_cons {g : Nat} {b : Blk} {L : List (Nat × Blk)} (h : isDef b = false) : noDef ((g, b) :: L) = (g, b) :: noDef L := by simp [noDef, h]
theorem Acc.nd {e es n cap g : Nat} {b : Blk} {p : Option Addr} {cells : List Value} (h : Acc e es p n cap cells g b) : isDef b = false := by
  rcases h.cases' with ⟨_, _, h3⟩ | ⟨l, _, h3, _⟩ <;> rw [h3] <;> rfl
end Go.Cx

namespace Go.Cx
set_option linter.unusedVariables false
set_option linter.unusedSimpArgs false
open Go
theorem setE_self : ∀ (L : List (Nat × Blk)) (k : Nat) (q : Nat × Blk), blk L k = some q → setE L k q = L
  | [], k, q, h => by simp [blk] at h
  | x :: r, 0, q, h => by simp only [blk, Option.some.injEq] at h; subst h; rfl
  | x :: r, k + 1, q, h => by simp only [setE]; rw [setE_self r k q h]
theorem Acc.copy {e es bs g n cap o sl sc dc T : Nat} {ts : Array TypeId} {ty : TypeId} {b : Blk} {p q : Option Addr} {cells src : List Value} {w0 w : World} {X : Bs} {L : List (Nat × Blk)} {P : Program} (ha : Acc e es p n cap cells g b) (hm : Mem w0 w X L) (j : Nat) (hj : blk L j = some (g, b)) (ho : o ≤ n)
    (hT : slcO P T = some (e, es, bs)) (hts : ts[0]? = some T) (hq : Rd w q src) (hs : src.length = min sl (n - o) * es) (h1 : src.all (·.oneCell') = true) :
    ∃ b' w', (Builtin.copy_ ts ty #[.slice (slp p cap o es) (n - o) dc, .slice q sl sc]).run P w = .ok (.int .i64 (min sl (n - o) : Nat)) w' ∧ Acc e es p n cap (upds cells (o * es) src) g b' ∧ Mem w0 w' X (setE L j (g, b')) ∧ b'.real = b.real ∧ Ext (fun k => k = g) w w' := by
  have none_ : min sl (n - o) = 0 → ∀ p' : Option Addr, ∃ b' w', (Builtin.copy_ ts ty #[.slice p' (n - o) dc, .slice q sl sc]).run P w = .ok (.int .i64 (min sl (n - o) : Nat)) w' ∧ Acc e es p n cap (upds cells (o * es) src) g b' ∧ Mem w0 w' X (setE L j (g, b')) ∧ b'.real = b.real ∧ Ext (fun k => k = g) w w' := fun h0 p' => by
    have hs0 : src = [] := List.length_eq_zero_iff.1 (by rw [hs, h0, Nat.zero_mul])
    subst hs0
    refine ⟨b, w, ?_, ha, by rw [setE_self L j _ hj]; exact hm, rfl, Ext.refl _ _⟩
    rw [h0]
    exact run_copy0 hT hts hq h0 (by cases p' with | none => exact .inl rfl | some a => exact .inr ⟨a, rfl⟩)
  rcases ha.cases' with ⟨h2, h3, _⟩ | ⟨l, rfl, rfl, hnc, hll, htk⟩
  · exact none_ (by omega) _
  · by_cases hco : cap = o
    · exact none_ (by omega) _
    · have hsp : slp (some ⟨g, 0, none⟩) cap o es = some ⟨g, o * es, none⟩ := by unfold slp; rw [if_neg hco]; simp
      have hle2 : n * es ≤ cap * es := Nat.mul_le_mul_right _ hnc
      have hle3 : o * es + (n - o) * es = n * es := by rw [← Nat.add_mul]; congr 1; omega
      have hle4 : min sl (n - o) * es ≤ (n - o) * es := Nat.mul_le_mul_right _ (Nat.min_le_right _ _)
      have hcl := ha.len
      rw [hsp]
      refine ⟨.row e (upds l (o * es) src), _, run_copy hT hts (hm.get hj) (by omega) hq hs h1, ⟨by rw [upds_length, hcl], .inr ⟨_, rfl, rfl, hnc, by rw [upds_length, hll], ?_⟩⟩, ?_, rfl, ?_⟩
      · rw [upds_eq src l _ (by omega), upds_eq src cells _ (by omega), ← htk, List.take_append, List.take_append]
        simp only [List.length_take, List.length_append, List.take_take, List.drop_take]
        have e1 : min (n * es) (o * es) = o * es := by omega
        have e2 : min (o * es) (n * es) = o * es := by omega
        have e3 : min (o * es) l.length = o * es := by omega
        rw [e1, e2, e3, List.take_of_length_le (l := src) (by omega)]
      · rw [← setB_eq L j g _ _ hj]
        exact setRow_mem hm hj
      · refine ⟨rfl, rfl, rfl, by simp [World.setRow], fun k hk hne => ?_⟩
        simp only [World.setRow, Array.getElem?_modify]
        rw [if_neg (by intro e; exact hne e.symm)]
section
variable {P : Program} {r : Option Nat} {k : Ks} {ops : Array Oper} {md : Md} {n : Nat} {D : List Deferred} {S : List (Nat × Value)} {w : World} {i : Nat} {t : Tr}
variable {ty : TypeId} {pos : String} {af : Array Edge} {g : Option (Nat × Bool)} {dst : Option Tmp} {d : Nat} {w0 : World} {X : Bs} {L : List (Nat × Blk)}
theorem a_copyN {b0 : World} {Y : Bs} {T e es bs : Nat} {x y : Operand} {ts : Array TypeId} {p q : Option Addr} {na cap o dl dc sl sc gg : Nat} {b : Blk} {cells src : List Value}
    (ho : opu ops S i = some (⟨dst, .call ⟨.builtin .copy, #[x, y], ts⟩, ty, pos, af, g⟩, d)) (hd : Nat.blt d n = true) (hx : ev S x = some (.slice (slp p cap o es) dl dc)) (hy : ev S y = some (.slice q sl sc)) (hts : ts[0]? = some T)
    (hT : slcO P T = some (e, es, bs)) (hdl : dl = na - o) (hle : o ≤ na) (hq : Rd w q src) (hs : src.length = min sl (na - o) * es) (h1 : src.all (·.oneCell') = true) (ha : Acc e es p na cap cells gg b)
    (hm : Mem w0 w X L) (j : Nat) (hj : blk L j = some (gg, b)) (hh : Hold (some (b0, Y)) w) (hY : Y gg)
    (h : ∀ b' w', Acc e es p na cap (upds cells (o * es) src) gg b' → Mem w0 w' X (setE L j (gg, b')) → Hold (some (b0, Y)) w' → HR P r k ops (some (b0, Y)) n D ((d, .int .i64 (min sl (na - o) : Nat)) :: S) t w') : HR P r k ops (some (b0, Y)) n D S (.act i t) w := by
  subst hdl
  obtain ⟨b', w', hrun, ha', hm', _, hx'⟩ := ha.copy (dc := dc) (sc := sc) (ty := ty) hm j hj hle hT hts hq hs h1
  have hh' := hh.turn hx' (fun k hk => by rw [hk]; exact hY)
  refine a_val ho hd rfl (fun a hf => ?_) hh' (h b' w' ha' hm' hh')
  simp only [execOp, resolve, List.map_toArray, List.map_cons, List.map_nil, hf.eval hx, hf.eval hy, Sem.run_bind, Sem.run_pure, Result.andThen_ok, invoke, builtin, hrun]
end
end Go.Cx

namespace Go.Cx
set_option linter.unusedVariables false
set_option linter.unusedSimpArgs false
open Go
theorem fmB (xs : List UInt8) : xs.flatMap encB = xs.map (fun x => Value.int .u8 x.toNat) := by
  induction xs with
  | nil => rfl
  | cons x r ih => rw [List.flatMap_cons, ih]; rfl
theorem upds_put {xs ys : List UInt8} {o : Nat} (h : o + ys.length ≤ xs.length) : upds (xs.flatMap encB) (o * 1) (ys.flatMap encB) = (Pl.put xs o ys).flatMap encB := by
  rw [fmB, fmB, fmB, Nat.mul_one, upds_eq _ _ _ (by simpa using h)]
  unfold Pl.put
  simp only [List.map_append, List.map_take, List.map_drop, List.length_map]
theorem fold_take {cs : List CmdV} {i : Nat} {c : CmdV} (hi : cs[i]? = some c) (f : List UInt8) : ((cs.map CmdV.cm).take (i + 1)).foldl Pl.ex1 f = Pl.ex1 (((cs.map CmdV.cm).take i).foldl Pl.ex1 f) c.cm := by
  rw [List.take_add_one, List.foldl_append, List.getElem?_map, hi]
  rfl
theorem exs_none {cs : List CmdV} {i : Nat} {c : CmdV} (hi : cs[i]? = some c) {f : List UInt8} (h : Pl.cfits f.length c.cm = false) : Pl.exs f (cs.map CmdV.cm) = none := by
  unfold Pl.exs
  rw [if_neg]
  intro ha
  rw [List.all_eq_true] at ha
  rw [ha c.cm (List.mem_map.2 ⟨c, List.mem_of_getElem? hi, rfl⟩)] at h
  cases h
theorem exs_some {cs : List CmdV} {f : List UInt8} (h : ∀ (j : Nat) c, j < cs.length → cs[j]? = some c → Pl.cfits f.length c.cm = true) : (∀ c ∈ cs, Pl.cfits f.length c.cm = true) ∧ Pl.exs f (cs.map CmdV.cm) = some ((cs.map CmdV.cm).foldl Pl.ex1 f) := by
  have h1 : ∀ c ∈ cs, Pl.cfits f.length c.cm = true := fun c hc => by
    obtain ⟨j, hj⟩ := List.getElem?_of_mem hc
    exact h j c (List.getElem?_eq_some_iff.1 hj).1 hj
  refine ⟨h1, ?_⟩
  unfold Pl.exs
  rw [if_pos]
  rw [List.all_eq_true]
  intro d hd
  obtain ⟨c, hc, rfl⟩ := List.mem_map.1 hd
  exact h1 c hc
theorem fold_len {cs : List CmdV} {f : List UInt8} (hc : ∀ c ∈ cs, Pl.ccheck c.cm = 0) (hf : ∀ c ∈ cs, Pl.cfits f.length c.cm = true) (i : Nat) : (((cs.map CmdV.cm).take i).foldl Pl.ex1 f).length = f.length := by
  refine Pl.exl_length (fun d hd => ?_) ?_
  · obtain ⟨c, hcm, rfl⟩ := List.mem_map.1 (List.mem_of_mem_take hd)
    exact hc c hcm
  · rw [List.all_eq_true]
    intro d hd
    obtain ⟨c, hcm, rfl⟩ := List.mem_map.1 (List.mem_of_mem_take hd)
    exact hf c hcm
theorem cfits_of {n : Int} {c : Pl.Cm} (h1 : c.to + Pl.clen c ≤ n) (h2 : c.k = 1 → c.fr + c.ln ≤ n) : Pl.cfits n c = true := by
  unfold Pl.cfits
  by_cases hk : c.k = 1
  · simp [h1, h2 hk]
  · simp [h1, hk]
theorem cfits_not {n : Int} {c : Pl.Cm} (h : ¬ c.to + Pl.clen c ≤ n ∨ c.k = 1 ∧ ¬ c.fr + c.ln ≤ n) : Pl.cfits n c = false := by
  unfold Pl.cfits
  rcases h with h | ⟨h1, h2⟩
  · simp [h]
  · simp [h1, h2]
theorem cfits_iff {n : Int} {c : Pl.Cm} (h : Pl.cfits n c = true) : c.to + Pl.clen c ≤ n ∧ (c.k = 1 → c.fr + c.ln ≤ n) := by
  simp only [Pl.cfits, Bool.and_eq_true, Bool.or_eq_true, decide_eq_true_eq] at h
  exact ⟨h.1, fun hk => h.2.resolve_left (fun h => h hk)⟩
theorem ex1_copy {F : List UInt8} {c : Pl.Cm} (hk : c.k = 1) : Pl.ex1 F c = Pl.put F c.to.toNat ((F.drop c.fr.toNat).take c.ln.toNat) := by unfold Pl.ex1 Pl.wrt; rw [if_pos hk]
theorem ex1_lit {F : List UInt8} {c : Pl.Cm} (hk : ¬ c.k = 1) : Pl.ex1 F c = Pl.put F c.to.toNat c.bs := by unfold Pl.ex1 Pl.wrt; rw [if_neg hk]
end Go.Cx
