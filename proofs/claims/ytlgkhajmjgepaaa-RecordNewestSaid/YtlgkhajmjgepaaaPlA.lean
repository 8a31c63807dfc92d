/- Plain definitions on numbers and extents (no program in sight). -/
namespace Go.Pl
set_option linter.unusedVariables false
set_option linter.unusedSimpArgs false
abbrev I64 (x : Int) : Prop := -9223372036854775808 ≤ x ∧ x ≤ 9223372036854775807
/-- the greatest length -/
abbrev mx : Int := 4611686018427387903
def valid (o l : Int) : Bool := decide (0 ≤ o ∧ 0 ≤ l ∧ l ≤ 4611686018427387903 - o)
theorem valid_iff {o l : Int} : valid o l = true ↔ 0 ≤ o ∧ 0 ≤ l ∧ l ≤ 4611686018427387903 - o := by simp [valid]
theorem valid_t {o l : Int} (h : valid o l = true) : 0 ≤ o ∧ 0 ≤ l ∧ o + l ≤ 4611686018427387903 := by have := valid_iff.1 h; omega
theorem valid_mk {o l : Int} (h : 0 ≤ o ∧ 0 ≤ l ∧ o + l ≤ 4611686018427387903) : valid o l = true := valid_iff.2 (by omega)
/-- the extent from lo to hi, if it has a length that is at least least -/
def btw (lo hi least : Int) : Option (Int × Int) := if hi - lo < least then none else some (lo, hi - lo)
def overlap (a b c d : Int) : Option (Int × Int) := btw (max a c) (min (a + b) (c + d)) 1
def joined (a b c d : Int) : Option (Int × Int) := if (btw (max a c) (min (a + b) (c + d)) 0).isSome then btw (min a c) (max (a + b) (c + d)) 0 else none
def shifted (a b by_ : Int) : Option (Int × Int) := if 4611686018427387903 - a < by_ then none else if valid (a + by_) b then some (a + by_, b) else none
/-- is (c, d) within (a, b)? -/
def within (a b c d : Int) : Bool := decide (a ≤ c ∧ c + d ≤ a + b)
def idx {α : Type} (p : α → Bool) (xs : List α) : Int := match xs.findIdx? p with | some i => i | none => -1
theorem idx_nonneg {α : Type} (p : α → Bool) (xs : List α) : decide (0 ≤ idx p xs) = xs.any p := by
  unfold idx
  cases h : xs.findIdx? p with
  | none => rw [List.findIdx?_eq_none_iff] at h; simp; intro x hx; simpa using h x hx
  | some i =>
    have h' : (xs.findIdx? p).isSome = true := by rw [h]; rfl
    rw [List.findIdx?_isSome] at h'
    simp [h']
theorem idx_first {α : Type} {p : α → Bool} {xs : List α} {k : Nat} {x : α} (hx : xs[k]? = some x) (hp : p x = true) (hb : ∀ (j : Nat) (y : α), j < k → xs[j]? = some y → p y = false) : idx p xs = k := by
  unfold idx
  have : xs.findIdx? p = some k := by
    rw [List.findIdx?_eq_some_iff_getElem]
    obtain ⟨h1, h2⟩ := List.getElem?_eq_some_iff.1 hx
    exact ⟨h1, by rw [h2]; exact hp, fun j hj => by simp [hb j _ hj (List.getElem?_eq_getElem (by omega))]⟩
  rw [this]
theorem idx_none {α : Type} {p : α → Bool} {xs : List α} (hb : ∀ (j : Nat) (y : α), j < xs.length → xs[j]? = some y → p y = false) : idx p xs = -1 := by
  unfold idx
  have : xs.findIdx? p = none := by
    rw [List.findIdx?_eq_none_iff]
    intro x hx
    obtain ⟨j, hj, e⟩ := List.getElem_of_mem hx
    simpa using hb j x hj (by rw [← e]; exact List.getElem?_eq_getElem hj)
  rw [this]
/-- the sum of the lengths, or none -/
def total : Int → List (Int × Int) → Option Int
  | n, [] => some n
  | n, e :: r => if 4611686018427387903 < n + e.2 then none else total (n + e.2) r
def okE (e : Int × Int) : Prop := 0 ≤ e.1 ∧ 0 ≤ e.2 ∧ e.1 + e.2 ≤ 4611686018427387903
theorem drop_cons {α : Type} {xs : List α} {k : Nat} {x : α} (h : xs[k]? = some x) : xs.drop k = x :: xs.drop (k + 1) := by
  obtain ⟨h1, h2⟩ := List.getElem?_eq_some_iff.1 h
  rw [List.drop_eq_getElem_cons h1, h2]
def piece (o l size : Int) (i : Nat) : Int × Int := (o + i * size, min size (l - i * size))
def pieces (l size : Int) : Int := if size < 1 ∨ l = 0 ∨ 1048576 ≤ (l - 1) / size then 0 else (l - 1) / size + 1
/-- where Split stands after i pieces: the rest's offset and length -/
def rest (o l size : Int) (i : Nat) : Int × Int := (min (o + i * size) (o + l), max (l - i * size) 0)
theorem rest_zero {o l size : Int} (h : 0 ≤ l) : rest o l size 0 = (o, l) := by
  simp only [rest, Prod.mk.injEq]; constructor <;> omega
theorem rest_sum (o l size : Int) (i : Nat) : (rest o l size i).1 + (rest o l size i).2 = o + l ∧ 0 ≤ (rest o l size i).2 := by
  simp only [rest]; generalize (i : Int) * size = q; omega
theorem rest_le {o l size : Int} {i : Nat} (hs : 1 ≤ size) (h : 0 ≤ l) : o ≤ (rest o l size i).1 ∧ (rest o l size i).2 ≤ l := by
  have hq : 0 ≤ (i : Int) * size := Int.mul_nonneg (by omega) (by omega)
  simp only [rest]; revert hq; generalize (i : Int) * size = q; omega
theorem rest_lt {o l size : Int} {i : Nat} : 0 < (rest o l size i).2 ↔ (i : Int) * size < l := by
  simp only [rest]; generalize (i : Int) * size = q; omega
theorem piece_rest {o l size : Int} {i : Nat} (h : 0 < (rest o l size i).2) : piece o l size i = ((rest o l size i).1, min size (rest o l size i).2) := by
  have := rest_lt.1 h
  simp only [rest, piece, Prod.mk.injEq]; revert this; generalize (i : Int) * size = q; intro h; constructor <;> omega
theorem rest_succ {o l size : Int} {i : Nat} (hs : 1 ≤ size) (h : 0 < (rest o l size i).2) :
    rest o l size (i + 1) = ((rest o l size i).1 + min size (rest o l size i).2, (rest o l size i).2 - min size (rest o l size i).2) := by
  have := rest_lt.1 h
  have e : ((i + 1 : Nat) : Int) * size = i * size + size := by rw [Int.natCast_add, Int.add_mul]; simp
  simp only [rest, Prod.mk.injEq, e]; revert this; generalize (i : Int) * size = q; intro h; constructor <;> omega
theorem rest_idx {o l size : Int} {i : Nat} (hs : 1 ≤ size) (h : 0 < (rest o l size i).2) : (i : Int) ≤ (l - 1) / size :=
  Int.le_ediv_of_mul_le (by omega) (by have := rest_lt.1 h; omega)
theorem pieces_of {o l size : Int} {i : Nat} (hs : 1 ≤ size) (hl : 0 < l) (hb : (l - 1) / size < 1048576) (h0 : (rest o l size i).2 = 0) (hp : ∀ j, j < i → 0 < (rest o l size j).2) : (i : Int) = pieces l size := by
  have hi : i ≠ 0 := fun e => by subst e; rw [rest_zero (by omega)] at h0; simp at h0; omega
  obtain ⟨j, rfl⟩ := Nat.exists_eq_succ_of_ne_zero hi
  simp only [Nat.succ_eq_add_one] at h0 hp hi
  have h1 := rest_idx hs (hp j (Nat.lt_succ_self _))
  have h2 : ¬ ((j + 1 : Nat) : Int) * size < l := fun h => by have := (rest_lt (o := o)).2 h; omega
  have e : ((j + 1 : Nat) : Int) * size = (j + 1 : Int) * size := by simp
  have h3 : (l - 1) / size < (j + 1 : Int) := Int.ediv_lt_of_lt_mul (by omega) (by rw [e] at h2; omega)
  unfold pieces
  rw [if_neg (by omega)]
  simp only [Nat.succ_eq_add_one, Int.natCast_add, Int.natCast_one]
  omega
theorem tdiv_len {l size : Int} (hl : 0 ≤ l) : (l - 1).tdiv size = if l = 0 then (-1 : Int).tdiv size else (l - 1) / size := by
  split
  · rename_i h; subst h; rfl
  · rw [Int.tdiv_eq_ediv_of_nonneg (by omega)]
theorem alls {α : Type} {p : α → Bool} {xs : List α} (h : ∀ (j : Nat) (y : α), j < xs.length → xs[j]? = some y → p y = true) : xs.all p = true := by
  rw [List.all_eq_true]
  intro x hx
  obtain ⟨j, hj, e⟩ := List.getElem_of_mem hx
  exact h j x hj (by rw [← e]; exact List.getElem?_eq_getElem hj)
theorem notall {α : Type} {p : α → Bool} {xs : List α} {k : Nat} {x : α} (hx : xs[k]? = some x) (hp : p x = false) : xs.all p = false := by
  rw [List.all_eq_false]
  exact ⟨x, List.mem_of_getElem? hx, by simp [hp]⟩
theorem eq_of {α : Type} {xs ys : List α} (hl : xs.length = ys.length) (h : ∀ (j : Nat), j < xs.length → xs[j]? = ys[j]?) : xs = ys := by
  apply List.ext_getElem?
  intro j
  by_cases hj : j < xs.length
  · exact h j hj
  · rw [List.getElem?_eq_none (by omega), List.getElem?_eq_none (by omega)]
theorem overlap_comm (a b c e : Int) : overlap c e a b = overlap a b c e := by
  simp only [overlap, Int.max_comm c a, Int.min_comm (c + e) (a + b)]
theorem overlap_some {a b c e x y : Int} (h : overlap a b c e = some (x, y)) : x = max a c ∧ y = min (a + b) (c + e) - max a c ∧ 1 ≤ y := by
  simp only [overlap, btw] at h
  split at h
  · cases h
  · simp only [Option.some.injEq, Prod.mk.injEq] at h; omega
theorem joined_isSome {a b c e : Int} (h1 : 0 ≤ b) (h2 : 0 ≤ e) : (joined a b c e).isSome = (decide (a ≤ c + e) && decide (c ≤ a + b)) := by
  rw [← Bool.decide_and]
  by_cases h : min (a + b) (c + e) - max a c < 0
  · have h3 : ¬ (a ≤ c + e ∧ c ≤ a + b) := by omega
    have e1 : btw (max a c) (min (a + b) (c + e)) 0 = none := by simp [btw, h]
    rw [joined, e1, decide_eq_false h3]; rfl
  · have h3 : a ≤ c + e ∧ c ≤ a + b := by omega
    have e1 : (btw (max a c) (min (a + b) (c + e)) 0).isSome = true := by simp [btw, h]
    have e2 : (btw (min a c) (max (a + b) (c + e)) 0).isSome = true := by
      have : ¬ max (a + b) (c + e) - min a c < 0 := by omega
      simp [btw, this]
    rw [joined, if_pos e1, e2, decide_eq_true h3]
theorem joined_some {a b c e x y : Int} (h : joined a b c e = some (x, y)) : x = min a c ∧ y = max (a + b) (c + e) - min a c := by
  simp only [joined] at h
  split at h
  · simp only [btw] at h
    split at h
    · cases h
    · simp only [Option.some.injEq, Prod.mk.injEq] at h; omega
  · cases h
theorem shifted_isSome {a b c : Int} (h : 0 ≤ a ∧ 0 ≤ b ∧ a + b ≤ 4611686018427387903) : (shifted a b c).isSome = ((decide (c ≥ 0) && decide (c ≤ 4611686018427387903 - a - b)) || (decide (c < 0) && decide (c ≥ -a))) := by
  simp only [shifted]
  split
  · rename_i h1
    rw [Bool.eq_iff_iff]; simp; omega
  · split
    · rename_i h1 h2
      have := valid_t h2
      rw [Bool.eq_iff_iff]; simp; omega
    · rename_i h1 h2
      have : ¬ (0 ≤ a + c ∧ 0 ≤ b ∧ a + c + b ≤ 4611686018427387903) := fun h => h2 (valid_mk h)
      rw [Bool.eq_iff_iff]; simp; omega
theorem shifted_some {a b c x y : Int} (h : shifted a b c = some (x, y)) : x = a + c ∧ y = b ∧ 0 ≤ a + c ∧ 0 ≤ b ∧ a + c + b ≤ 4611686018427387903 := by
  simp only [shifted] at h
  split at h
  · cases h
  · split at h
    · rename_i h2
      have := valid_t h2
      simp only [Option.some.injEq, Prod.mk.injEq] at h; omega
    · cases h
theorem shifted_mk {a b c : Int} (h1 : 0 ≤ a ∧ 0 ≤ b ∧ a + b ≤ 4611686018427387903) (h : 0 ≤ a + c ∧ a + c + b ≤ 4611686018427387903) : shifted a b c = some (a + c, b) := by
  simp only [shifted]
  rw [if_neg (by omega), if_pos (valid_mk (by omega))]
theorem pieces_pos {b c : Int} {k : Nat} (hb : 0 ≤ b) (h : (k : Int) < pieces b c) : 1 ≤ c ∧ 0 < b ∧ (k : Int) * c < b ∧ 0 ≤ (k : Int) * c := by
  unfold pieces at h
  split at h
  · omega
  · rename_i hn
    have h1 : (k : Int) ≤ (b - 1) / c := by omega
    have h2 := Int.mul_le_of_le_ediv (by omega) h1
    have h3 : 0 ≤ (k : Int) * c := Int.mul_nonneg (by omega) (by omega)
    exact ⟨by omega, by omega, by omega, h3⟩
theorem rest_end {a b c : Int} {n : Nat} (hb : 0 ≤ b) (h : (n : Int) = pieces b c) : (rest a b c n).1 - a = if n = 0 then 0 else b := by
  split
  · rename_i h0; subst h0; rw [rest_zero hb]; omega
  · unfold pieces at h
    split at h
    · omega
    · have h1 := Int.lt_ediv_add_one_mul_self (b - 1) (show 0 < c by omega)
      rw [← h] at h1
      simp only [rest]
      revert h1
      generalize (n : Int) * c = q
      omega
theorem total_pieces {a b c : Int} {n : Nat} (h0 : 0 ≤ a ∧ 0 ≤ b ∧ a + b ≤ 4611686018427387903) (h : (n : Int) = pieces b c) : total 0 ((List.range n).map (piece a b c)) = some (if n = 0 then 0 else b) := by
  have hgo : ∀ (m k : Nat), k + m = n → total ((rest a b c k).1 - a) ((List.range' k m).map (piece a b c)) = some ((rest a b c n).1 - a) := fun m => by
    induction m with
    | zero => intro k hk; simp only [Nat.add_zero] at hk; subst hk; simp [total]
    | succ m ih =>
      intro k hk
      obtain ⟨h1, h2, h3, h4⟩ := pieces_pos h0.2.1 (show (k : Int) < pieces b c by omega)
      have h5 := (rest_lt (o := a)).2 h3
      have h6 := piece_rest h5
      have h7 := rest_succ h1 h5
      have h8 := rest_sum a b c k
      have h9 := rest_le (o := a) (i := k) h1 h0.2.1
      have h10 := ih (k + 1) (by omega)
      rw [h7] at h10
      simp only at h10
      rw [List.range'_succ, List.map_cons, total, h6]
      simp only
      rw [if_neg (by omega), ← h10]
      congr 1
      omega
  have := hgo n 0 (by omega)
  rw [rest_zero h0.2.1, rest_end h0.2.1 h, ← List.range_eq_range'] at this
  simpa using this
theorem pieces_ok {a b c : Int} {n : Nat} (h0 : 0 ≤ a ∧ 0 ≤ b ∧ a + b ≤ 4611686018427387903) (h : (n : Int) = pieces b c) : ∀ x ∈ (List.range n).map (piece a b c), a ≤ x.1 ∧ 1 ≤ x.2 ∧ x.1 + x.2 ≤ a + b := by
  intro x hx
  obtain ⟨k, hk, rfl⟩ := List.mem_map.1 hx
  obtain ⟨h1, h2, h3, h4⟩ := pieces_pos h0.2.1 (show (k : Int) < pieces b c by have := List.mem_range.1 hk; omega)
  have h5 := (rest_lt (o := a)).2 h3
  have h8 := rest_sum a b c k
  have h9 := rest_le (o := a) (i := k) h1 h0.2.1
  rw [piece_rest h5]
  simp only
  omega
theorem split_end {a b c : Int} {k : Nat} (hb : 0 ≤ b) (h : (k : Int) = pieces b c) :
    ((decide ((k : Int) = 0) && decide ((if k = 0 then 0 else b) = 0)) || ((decide ((k : Int) > 0) && decide ((if k = 0 then 0 else b) = b)) && decide ((rest a b c k).1 = a + b))) = true := by
  have := rest_end (a := a) hb h
  rcases Nat.eq_zero_or_pos k with h1 | h1
  · subst h1; simp
  · have h2 : k ≠ 0 := by omega
    rw [if_neg h2] at this
    simp [h2]
    omega
theorem pieces_le (b c : Int) : pieces b c ≤ 1048576 := by
  unfold pieces
  split <;> omega
end Go.Pl
