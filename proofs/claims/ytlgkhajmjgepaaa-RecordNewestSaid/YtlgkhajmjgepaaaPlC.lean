/- Plain definitions: bytes and numbers of fixed sizes; the state of a reader. -/
import Derived.Test.YtlgkhajmjgepaaaPlB
namespace Go.Pl
set_option linter.unusedVariables false
set_option linter.unusedSimpArgs false
/-- byte number k of v, from the least on -/
def byt (v : Int) (k : Nat) : UInt8 := UInt8.ofNat (v / 256 ^ k % 256).toNat
theorem byt_val (v : Int) (k : Nat) : ((byt v k).toNat : Int) = v / 256 ^ k % 256 := by
  unfold byt
  rw [UInt8.toNat_ofNat']
  have h1 := Int.emod_nonneg (v / 256 ^ k) (show (256 : Int) ≠ 0 by decide)
  have h2 := Int.emod_lt_of_pos (v / 256 ^ k) (show (0 : Int) < 256 by decide)
  generalize v / 256 ^ k % 256 = x at h1 h2
  omega
/-- v in n bytes, the greatest first -/
def be (v : Int) : Nat → List UInt8
  | 0 => []
  | k + 1 => byt v k :: be v k
theorem be_len (v : Int) : ∀ n, (be v n).length = n
  | 0 => rfl
  | n + 1 => by simp [be, be_len v n]
def fits (v n : Int) : Bool := decide (1 ≤ n ∧ n ≤ 8 ∧ v < 256 ^ n.toNat)
def num (x : Int) : List UInt8 → Int
  | [] => x
  | b :: r => num (x * 256 + b.toNat) r
theorem num_be (v : Int) (h : 0 ≤ v) : ∀ (n : Nat) (x : Int), num x (be v n) = x * 256 ^ n + v % 256 ^ n
  | 0, x => by simp [num, be]
  | n + 1, x => by
    simp only [be, num]
    rw [num_be v h n, byt_val, Int.pow_succ]
    have h1 : v % (256 ^ n * 256) = v % 256 ^ n + 256 ^ n * (v / 256 ^ n % 256) := by
      have hp : (0 : Int) < 256 ^ n := Int.pow_pos (by decide)
      have e1 := Int.emod_add_mul_ediv v (256 ^ n * 256)
      have e2 := Int.emod_add_mul_ediv v (256 ^ n)
      have e3 := Int.emod_add_mul_ediv (v / 256 ^ n) 256
      have e4 : v / (256 ^ n * 256) = v / 256 ^ n / 256 := by rw [← Int.ediv_ediv_of_nonneg (by omega)]
      rw [e4] at e1
      generalize hq : v / 256 ^ n / 256 = q at *
      generalize hr : v / 256 ^ n % 256 = r at *
      rw [← e3, Int.mul_add] at e2
      have e5 : (256 : Int) ^ n * 256 * q = 256 ^ n * (256 * q) := Int.mul_assoc _ _ _
      omega
    rw [h1, Int.add_mul]
    have e5 : x * 256 * 256 ^ n = x * (256 ^ n * 256) := by rw [Int.mul_assoc, Int.mul_comm 256]
    have e6 : v / 256 ^ n % 256 * 256 ^ n = 256 ^ n * (v / 256 ^ n % 256) := Int.mul_comm _ _
    omega
theorem num_bnd : ∀ (l : List UInt8) (x : Int), 0 ≤ x → 0 ≤ num x l ∧ num x l < (x + 1) * 256 ^ l.length
  | [], x, h => by simp [num]; omega
  | b :: r, x, h => by
    have hb : b.toNat < 256 := UInt8.toNat_lt b
    have := num_bnd r (x * 256 + b.toNat) (by omega)
    simp only [num, List.length_cons, Int.pow_succ]
    refine ⟨this.1, Int.lt_of_lt_of_le this.2 ?_⟩
    have hp : (0 : Int) ≤ 256 ^ r.length := Int.le_of_lt (Int.pow_pos (by decide))
    have : (x * 256 + (b.toNat : Int) + 1) * 256 ^ r.length ≤ ((x + 1) * 256) * 256 ^ r.length := Int.mul_le_mul_of_nonneg_right (by omega) hp
    have e : (x + 1) * (256 ^ r.length * 256) = (x + 1) * 256 * 256 ^ r.length := by rw [Int.mul_assoc (x + 1) 256, Int.mul_comm 256]
    omega
theorem num_app : ∀ (a b : List UInt8) (x : Int), num x (a ++ b) = num (num x a) b
  | [], _, _ => rfl
  | _ :: r, b, x => by simp only [List.cons_append, num]; exact num_app r b _
theorem shr8 {v j : Int} {k : Nat} (hv : 0 ≤ v) (hj : j = 8 * k) (hk : k ≤ 8) : v.fdiv (2 ^ (min j.toNat 64)) = v / 256 ^ k := by
  have h1 : min j.toNat 64 = 8 * k := by omega
  rw [h1, Int.fdiv_eq_ediv_of_nonneg _ (Int.le_of_lt (Int.pow_pos (by decide))), Int.pow_mul]
  rfl
theorem shr71 {v j : Int} {k : Nat} (hv : 0 ≤ v) (hj : j = 8 * k - 1) (h1 : 1 ≤ k) (hk : k ≤ 8) : (v.fdiv (2 ^ (min j.toNat 64))).fdiv (2 ^ (min (1 : Int).toNat 64)) = v / 256 ^ k := by
  have h2 : min j.toNat 64 = 8 * k - 1 := by omega
  have h3 : min (1 : Int).toNat 64 = 1 := by decide
  rw [h2, h3, Int.fdiv_eq_ediv_of_nonneg _ (Int.le_of_lt (Int.pow_pos (by decide))), Int.fdiv_eq_ediv_of_nonneg _ (Int.le_of_lt (Int.pow_pos (by decide))), Int.ediv_ediv_of_nonneg (Int.le_of_lt (Int.pow_pos (by decide))), ← Int.pow_add, show 8 * k - 1 + 1 = 8 * k by omega, Int.pow_mul]
  rfl
theorem div_zero_iff {v : Int} {k : Nat} (hv : 0 ≤ v) : v / 256 ^ k = 0 ↔ v < 256 ^ k := by
  have hp : (0 : Int) < 256 ^ k := Int.pow_pos (by decide)
  constructor
  · intro h
    have := Int.lt_ediv_add_one_mul_self v hp
    rw [h] at this
    omega
  · intro h; exact Int.ediv_eq_zero_of_lt hv h

/-- a reader: offset, error, the error's offset -/
structure RS where
  at_ : Nat
  code : Int
  fat : Int
def RS.fail (s : RS) (c a : Int) : RS := if s.code = 0 ∧ c ≠ 0 then { s with code := c, fat := a } else s
/-- take n bytes of len -/
def rtake (len : Nat) (s : RS) (n : Int) : RS × Bool :=
  if s.code ≠ 0 then (s, false) else if n < 0 then (s.fail 2 s.at_, false) else if n > (len : Int) - s.at_ then (s.fail 8 len, false) else ({ s with at_ := s.at_ + n.toNat }, true)
def usize (n : Int) : Int := if n < 1 ∨ n > 8 then -1 else n
def ruint (bs : List UInt8) (s : RS) (n : Int) : RS × Int :=
  if (rtake bs.length s (usize n)).2 = true then ((rtake bs.length s (usize n)).1, num 0 ((bs.drop s.at_).take (usize n).toNat)) else ((rtake bs.length s (usize n)).1, 0)
theorem rtake_ok {len : Nat} {s : RS} {n : Int} (h : (rtake len s n).2 = true) : s.code = 0 ∧ 0 ≤ n ∧ n ≤ (len : Int) - s.at_ ∧ (rtake len s n).1 = { s with at_ := s.at_ + n.toNat } := by
  unfold rtake at h ⊢
  split at h
  · cases h
  · split at h
    · cases h
    · split at h
      · cases h
      · rename_i h1 h2 h3
        rw [if_neg h1, if_neg h2, if_neg h3]
        exact ⟨by simpa using h1, by omega, by omega, rfl⟩
theorem rtake_at {len : Nat} {s : RS} {n : Int} (h : s.at_ ≤ len) : (rtake len s n).1.at_ ≤ len := by
  unfold rtake RS.fail
  split
  · exact h
  · split
    · split <;> exact h
    · split
      · split <;> exact h
      · simp only; omega
theorem ruint_fst (bs : List UInt8) (s : RS) (n : Int) : (ruint bs s n).1 = (rtake bs.length s (usize n)).1 := by unfold ruint; split <;> rfl
def putB (fs : List (Int × Int)) : List UInt8 := fs.flatMap fun f => be f.1 f.2.toNat
theorem pow8 : (256 : Int) ^ 8 = 18446744073709551616 := by decide
theorem fits_eq {v n : Int} (hv : 0 ≤ v ∧ v ≤ 18446744073709551615) :
    ((decide (n ≥ 1) && decide (n ≤ 8)) && decide ((v.fdiv (2 ^ (min (8 * n - 1).toNat 64))).fdiv (2 ^ (min (1 : Int).toNat 64)) = 0)) = fits v n := by
  unfold fits
  by_cases h : 1 ≤ n ∧ n ≤ 8
  · rw [shr71 (k := n.toNat) hv.1 (by omega) (by omega) (by omega)]
    simp only [div_zero_iff hv.1]
    simp [h]
  · have h1 : (decide (n ≥ 1) && decide (n ≤ 8)) = false := by rw [← Bool.decide_and]; exact decide_eq_false h
    rw [h1, Bool.false_and]
    exact (decide_eq_false fun hh => h ⟨hh.1, hh.2.1⟩).symm
theorem fits_eq' {v n : Int} (hv : 0 ≤ v ∧ v ≤ 18446744073709551615) :
    ((decide (n ≥ 1) && decide (n ≤ 8)) && (decide (n = 8) || decide (v.fdiv (2 ^ (min (8 * n).toNat 64)) = 0))) = fits v n := by
  unfold fits
  by_cases h : 1 ≤ n ∧ n ≤ 8
  · rw [shr8 (k := n.toNat) hv.1 (by omega) (by omega)]
    simp only [div_zero_iff hv.1]
    by_cases h8 : n = 8
    · subst h8
      have : v < 256 ^ (8 : Int).toNat := by rw [show (8 : Int).toNat = 8 from rfl, pow8]; omega
      simp; omega
    · simp [h, h8]
  · have h1 : (decide (n ≥ 1) && decide (n ≤ 8)) = false := by rw [← Bool.decide_and]; exact decide_eq_false h
    rw [h1, Bool.false_and]
    exact (decide_eq_false fun hh => h ⟨hh.1, hh.2.1⟩).symm
theorem pow_le {m n : Nat} (h : m ≤ n) : (256 : Int) ^ m ≤ 256 ^ n := by
  obtain ⟨k, rfl⟩ := Nat.exists_eq_add_of_le h
  rw [Int.pow_add]
  have h1 : (0 : Int) < 256 ^ m := Int.pow_pos (by decide)
  have h2 : (0 : Int) < 256 ^ k := Int.pow_pos (by decide)
  have := Int.mul_le_mul_of_nonneg_left (show (1 : Int) ≤ 256 ^ k by omega) (Int.le_of_lt h1)
  omega
/-! a list of fields -/
def okF (f : Int × Int) : Prop := (0 ≤ f.1 ∧ f.1 ≤ 18446744073709551615) ∧ I64 f.2
def fitA (fs : List (Int × Int)) : Bool := fs.all fun f => fits f.1 f.2
def wout (bs : List UInt8) (fs : List (Int × Int)) : List UInt8 := bif fitA fs then bs ++ putB fs else []
theorem putB_next {fs : List (Int × Int)} {k : Nat} {f : Int × Int} (h : fs[k]? = some f) : putB (fs.take (k + 1)) = putB (fs.take k) ++ be f.1 f.2.toNat := by
  rw [List.take_add_one, h]; simp [putB]
theorem fitA_next {fs : List (Int × Int)} {k : Nat} {f : Int × Int} (h : fs[k]? = some f) : fitA (fs.take (k + 1)) = (fitA (fs.take k) && fits f.1 f.2) := by
  rw [List.take_add_one, h]; simp [fitA]
theorem fitA_not {fs : List (Int × Int)} {k : Nat} {f : Int × Int} (h : fs[k]? = some f) (hf : fits f.1 f.2 = false) : fitA fs = false := by
  rw [fitA, List.all_eq_false]; exact ⟨f, List.mem_of_getElem? h, by simp [hf]⟩
theorem fits_bnd {v n : Int} (h : fits v n = true) : 1 ≤ n ∧ n ≤ 8 := by unfold fits at h; have := of_decide_eq_true h; exact ⟨this.1, this.2.1⟩
/-! the readers' further calls -/
def rlength (bs : List UInt8) (s : RS) : RS × Int := if (ruint bs s 8).2 > 4611686018427387903 then ((ruint bs s 8).1.fail 2 s.at_, 0) else ruint bs s 8
def rbytes (bs : List UInt8) (s : RS) (n : Int) : RS × List UInt8 := ((rtake bs.length s n).1, if (rtake bs.length s n).2 = true then (bs.drop s.at_).take n.toNat else [])
def rexpect (bs : List UInt8) (s : RS) (ds : List UInt8) (c : Int) : RS × Bool :=
  if s.code ≠ 0 then (s, false) else if ds.take (min ds.length (bs.length - s.at_)) ≠ (bs.drop s.at_).take (min ds.length (bs.length - s.at_)) then (s.fail c s.at_, false) else rtake bs.length s ds.length
theorem ruint_bnd (bs : List UInt8) (s : RS) (n : Int) : 0 ≤ (ruint bs s n).2 ∧ (ruint bs s n).2 ≤ 18446744073709551615 := by
  unfold ruint
  split
  · have h := num_bnd ((bs.drop s.at_).take (usize n).toNat) 0 (Int.le_refl _)
    have h8 : ((bs.drop s.at_).take (usize n).toNat).length ≤ 8 := by rw [List.length_take]; unfold usize; split <;> omega
    have h2 := pow_le h8
    rw [pow8] at h2
    simp only
    omega
  · simp
theorem rtake_bad {len : Nat} {s : RS} {n : Int} (h : s.code ≠ 0) : rtake len s n = (s, false) := by unfold rtake; rw [if_pos h]
theorem ruint_bad {bs : List UInt8} {s : RS} {n : Int} (h : s.code ≠ 0) : ruint bs s n = (s, 0) := by unfold ruint; rw [rtake_bad h]; rfl
theorem rlength_bad {bs : List UInt8} {s : RS} (h : s.code ≠ 0) : rlength bs s = (s, 0) := by unfold rlength; rw [ruint_bad h]; rfl
theorem rbytes_bad {bs : List UInt8} {s : RS} {n : Int} (h : s.code ≠ 0) : rbytes bs s n = (s, []) := by unfold rbytes; rw [rtake_bad h]; rfl
theorem rexpect_bad {bs : List UInt8} {s : RS} {ds : List UInt8} {c : Int} (h : s.code ≠ 0) : rexpect bs s ds c = (s, false) := by unfold rexpect; rw [if_pos h]
theorem ruint_at {bs : List UInt8} {s : RS} {n : Int} (h : s.at_ ≤ bs.length) : (ruint bs s n).1.at_ ≤ bs.length := by rw [ruint_fst]; exact rtake_at h
theorem putB_len {fs : List (Int × Int)} (h : fitA fs = true) : (putB fs).length ≤ 8 * fs.length := by
  induction fs with
  | nil => simp [putB]
  | cons f r ih =>
    simp only [fitA, List.all_cons, Bool.and_eq_true] at h
    have := ih h.2
    have h1 := fits_bnd h.1
    simp only [putB, List.flatMap_cons, List.length_append, be_len, List.length_cons] at this ⊢
    omega
theorem usize_ok {v n : Int} (h : fits v n = true) : usize n = n := by have := fits_bnd h; unfold usize; rw [if_neg (by omega)]
theorem num_be0 {v n : Int} (h0 : 0 ≤ v) (h : fits v n = true) : num 0 (be v n.toNat) = v := by
  rw [num_be v h0, Int.zero_mul, Int.zero_add]
  unfold fits at h
  have := (of_decide_eq_true h).2.2
  exact Int.emod_eq_of_lt h0 this
theorem putB_split {fs : List (Int × Int)} {k : Nat} {f : Int × Int} (h : fs[k]? = some f) : putB fs = putB (fs.take k) ++ (be f.1 f.2.toNat ++ putB (fs.drop (k + 1))) := by
  have hk : k < fs.length := (List.getElem?_eq_some_iff.1 h).1
  have e : fs = fs.take k ++ (f :: fs.drop (k + 1)) := by
    have h1 : fs[k] = f := by rw [List.getElem?_eq_getElem hk] at h; exact Option.some.inj h
    conv => lhs; rw [← List.take_append_drop k fs, List.drop_eq_getElem_cons hk, h1]
  conv => lhs; rw [e]
  simp [putB]
/-- the next field that was written is read -/
theorem ruint_put {fs : List (Int × Int)} {k : Nat} {f : Int × Int} (h : fs[k]? = some f) (hA : fitA fs = true) (hf : okF f) :
    ruint (putB fs) ⟨(putB (fs.take k)).length, 0, 0⟩ f.2 = (⟨(putB (fs.take (k + 1))).length, 0, 0⟩, f.1) := by
  have hfit : fits f.1 f.2 = true := by
    unfold fitA at hA; rw [List.all_eq_true] at hA; exact hA f (List.mem_of_getElem? h)
  have hb := fits_bnd hfit
  have hs := putB_split h
  have hl : (putB fs).length = (putB (fs.take k)).length + f.2.toNat + (putB (fs.drop (k + 1))).length := by rw [hs]; simp only [List.length_append, be_len]; omega
  have hn : (putB (fs.take (k + 1))).length = (putB (fs.take k)).length + f.2.toNat := by rw [putB_next h, List.length_append, be_len]
  have ht : rtake (putB fs).length ⟨(putB (fs.take k)).length, 0, 0⟩ f.2 = (⟨(putB (fs.take k)).length + f.2.toNat, 0, 0⟩, true) := by
    unfold rtake
    rw [if_neg (by simp), if_neg (by omega), if_neg (by simp only; omega)]
  have hc : ((putB fs).drop (putB (fs.take k)).length).take f.2.toNat = be f.1 f.2.toNat := by
    rw [hs, List.drop_left]
    have h9 := List.take_left (l₁ := be f.1 f.2.toNat) (l₂ := putB (fs.drop (k + 1)))
    rw [be_len] at h9
    exact h9
  unfold ruint
  rw [usize_ok hfit, ht]
  simp only [if_true, hc, num_be0 hf.1.1 hfit, hn]
theorem fail_code {s : RS} {c a : Int} (h : c ≠ 0) : (s.fail c a).code ≠ 0 := by unfold RS.fail; split <;> simp_all
theorem fail_at (s : RS) (c a : Int) : (s.fail c a).at_ = s.at_ := by unfold RS.fail; split <;> rfl
theorem wout_len {bs : List UInt8} {fs : List (Int × Int)} (h1 : bs.length ≤ 1000) (h2 : fs.length ≤ 1000) : (wout bs fs).length ≤ 140737488355328 := by
  unfold wout
  cases h : fitA fs with
  | false => simp
  | true => have := putB_len h; simp only [cond_true, List.length_append]; omega
theorem rbytes_at {bs : List UInt8} {s k : Nat} (h : s + k ≤ bs.length) : rbytes bs ⟨s, 0, 0⟩ (k : Int) = (⟨s + k, 0, 0⟩, (bs.drop s).take k) := by
  have ht : rtake bs.length ⟨s, 0, 0⟩ (k : Int) = (⟨s + k, 0, 0⟩, true) := by
    unfold rtake
    rw [if_neg (by simp), if_neg (by omega), if_neg (by simp only; omega)]
    simp
  unfold rbytes
  rw [ht]
  simp
end Go.Pl
