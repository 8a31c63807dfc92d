/- Plain law of the constants of SHA-256: wide numbers, roots, primes. No condition. -/
import Derived.Test.YtibdmklcdllklaaPlT
namespace Go.Pl
set_option linter.unusedVariables false
set_option linter.unusedSimpArgs false
set_option maxRecDepth 100000
abbrev wB : Nat := 4294967296
def valW : List Nat → Nat
  | [] => 0
  | x :: r => x + wB * valW r
/-- the words of a number whose digits may be too large -/
def carL : List Nat → Nat → List Nat
  | [], _ => []
  | x :: r, c => (x + c) % wB :: carL r ((x + c) / wB)
def carC : List Nat → Nat → Nat
  | [], c => c
  | x :: r, c => carC r ((x + c) / wB)
theorem carL_len : ∀ (xs : List Nat) (c : Nat), (carL xs c).length = xs.length
  | [], _ => rfl
  | x :: r, c => by simp [carL, carL_len r]
theorem carL_app : ∀ (xs : List Nat) (x c : Nat), carL (xs ++ [x]) c = carL xs c ++ [(x + carC xs c) % wB]
  | [], x, c => rfl
  | y :: r, x, c => by simp [carL, carC, carL_app r]
theorem carC_app : ∀ (xs : List Nat) (x c : Nat), carC (xs ++ [x]) c = (x + carC xs c) / wB
  | [], x, c => rfl
  | y :: r, x, c => by simp [carC, carC_app r]
theorem carC_le {M : Nat} : ∀ (xs : List Nat) (c : Nat), (∀ x ∈ xs, x ≤ M) → c ≤ M → carC xs c ≤ M
  | [], c, _, h => h
  | x :: r, c, h, hc => by
    refine carC_le r _ (fun y hy => h y (by simp [hy])) ?_
    have := h x (by simp)
    simp only [wB]
    omega
theorem carL_lt : ∀ (xs : List Nat) (c : Nat), ∀ y ∈ carL xs c, y < wB
  | [], _, y, h => by simp [carL] at h
  | x :: r, c, y, h => by
    simp only [carL, List.mem_cons] at h
    rcases h with rfl | h
    · exact Nat.mod_lt _ (by decide)
    · exact carL_lt r _ y h
theorem carL_val : ∀ (xs : List Nat) (c : Nat), valW (carL xs c) + wB ^ xs.length * carC xs c = valW xs + c
  | [], c => by simp [carL, carC, valW]
  | x :: r, c => by
    have ih := carL_val r ((x + c) / wB)
    simp only [carL, carC, valW, List.length_cons, Nat.pow_succ]
    have h1 := Nat.div_add_mod (x + c) wB
    have h2 : wB ^ r.length * wB * carC r ((x + c) / wB) = wB * (wB ^ r.length * carC r ((x + c) / wB)) := by
      rw [Nat.mul_comm (wB ^ r.length) wB, Nat.mul_assoc]
    rw [h2]
    have h3 : wB * valW (carL r ((x + c) / wB)) + wB * (wB ^ r.length * carC r ((x + c) / wB)) = wB * valW r + wB * ((x + c) / wB) := by
      rw [← Nat.mul_add, ih, Nat.mul_add]
    omega
theorem carL_fit {xs : List Nat} (hl : xs.length = 4) (h : valW xs < wB ^ 4) : valW (carL xs 0) = valW xs := by
  have := carL_val xs 0
  rw [hl] at this
  rcases Nat.eq_zero_or_pos (carC xs 0) with h0 | h0
  · rw [h0] at this; omega
  · have : wB ^ 4 * 1 ≤ wB ^ 4 * carC xs 0 := Nat.mul_le_mul_left _ h0
    omega
theorem valW_mul (m : Nat) : ∀ xs : List Nat, valW (xs.map (· * m)) = valW xs * m
  | [] => by simp [valW]
  | x :: r => by simp only [List.map_cons, valW, valW_mul m r, Nat.add_mul, Nat.mul_assoc]
def addL : List Nat → List Nat → List Nat
  | x :: r, y :: s => (x + y) :: addL r s
  | _, _ => []
theorem addL_len : ∀ {xs ys : List Nat}, xs.length = ys.length → (addL xs ys).length = xs.length
  | [], [], _ => rfl
  | x :: r, y :: s, h => by simp only [addL, List.length_cons]; rw [addL_len (by simpa using h)]
  | [], _ :: _, h => by simp at h
  | _ :: _, [], h => by simp at h
theorem valW_add : ∀ {xs ys : List Nat}, xs.length = ys.length → valW (addL xs ys) = valW xs + valW ys
  | [], [], _ => rfl
  | x :: r, y :: s, h => by simp only [addL, valW]; rw [valW_add (by simpa using h)]; rw [Nat.mul_add]; omega
  | [], _ :: _, h => by simp at h
  | _ :: _, [], h => by simp at h
theorem addL_get : ∀ {xs ys : List Nat} {i x y : Nat}, xs[i]? = some x → ys[i]? = some y → (addL xs ys)[i]? = some (x + y)
  | a :: r, b :: s, 0, x, y, h1, h2 => by simp at h1 h2; simp [addL, h1, h2]
  | a :: r, b :: s, i + 1, x, y, h1, h2 => by simp at h1 h2; simp [addL, addL_get h1 h2]
  | [], _, _, _, _, h1, _ => by simp at h1
  | _ :: _, [], _, _, _, _, h2 => by simp at h2
def scaleW (a : List Nat) (m : Nat) : List Nat := carL (a.map (· * m)) 0
def plusW (a b : List Nat) : List Nat := carL (addL a b) 0
def timesW (a : List Nat) (m : Nat) : List Nat := plusW (scaleW a (m % 65536)) (scaleW (scaleW a (m / 65536)) 65536)
theorem scaleW_len (a : List Nat) (m : Nat) : (scaleW a m).length = a.length := by simp [scaleW, carL_len]
theorem scaleW_val {a : List Nat} {m : Nat} (hl : a.length = 4) (h : valW a * m < wB ^ 4) : valW (scaleW a m) = valW a * m := by
  unfold scaleW
  rw [carL_fit (by simpa using hl) (by rw [valW_mul]; exact h), valW_mul]
theorem timesW_len {a : List Nat} {m : Nat} (hl : a.length = 4) : (timesW a m).length = 4 := by
  unfold timesW plusW
  rw [carL_len, addL_len (by simp [scaleW_len]), scaleW_len, hl]
theorem timesW_lt {a : List Nat} {m : Nat} : ∀ y ∈ timesW a m, y < wB := carL_lt _ _
theorem timesW_val {a : List Nat} {m : Nat} (hl : a.length = 4) (h : valW a * m < wB ^ 4) : valW (timesW a m) = valW a * m := by
  have hm := Nat.div_add_mod m 65536
  have e : valW a * m = valW a * (m % 65536) + valW a * (m / 65536) * 65536 := by
    rw [Nat.mul_assoc, ← Nat.mul_add]
    congr 1
    omega
  have h1 : valW a * (m % 65536) < wB ^ 4 := by omega
  have h2 : valW a * (m / 65536) < wB ^ 4 := by omega
  have v1 := scaleW_val hl h1
  have v2 := scaleW_val hl h2
  have v3 := scaleW_val (a := scaleW a (m / 65536)) (m := 65536) (by rw [scaleW_len, hl]) (by rw [v2]; omega)
  have l1 : (scaleW a (m % 65536)).length = (scaleW (scaleW a (m / 65536)) 65536).length := by simp [scaleW_len]
  unfold timesW plusW
  rw [carL_fit (by rw [addL_len l1, scaleW_len, hl]) (by rw [valW_add l1, v1, v3, v2]; omega), valW_add l1, v1, v3, v2, e]
/-- comparing words from the top -/
theorem cmpW {a b : List Nat} (ha : a.length = 4) (hb : b.length = 4) (la : ∀ y ∈ a, y < wB) (lb : ∀ y ∈ b, y < wB) {i : Nat} (hi : i < 4) (hup : ∀ j, i < j → a.getD j 0 = b.getD j 0) (hne : a.getD i 0 ≠ b.getD i 0) :
    (a.getD i 0 < b.getD i 0) = (valW a ≤ valW b) := by
  match a, ha, b, hb with
  | [a0, a1, a2, a3], _, [b0, b1, b2, b3], _ =>
    have x0 := la a0 (by simp); have x1 := la a1 (by simp); have x2 := la a2 (by simp); have x3 := la a3 (by simp)
    have y0 := lb b0 (by simp); have y1 := lb b1 (by simp); have y2 := lb b2 (by simp); have y3 := lb b3 (by simp)
    simp only [valW, wB] at *
    have u1 := hup 1; have u2 := hup 2; have u3 := hup 3
    simp only [List.getD_cons_succ, List.getD_cons_zero] at u1 u2 u3
    rcases (show i = 0 ∨ i = 1 ∨ i = 2 ∨ i = 3 by omega) with rfl | rfl | rfl | rfl <;> simp only [List.getD_cons_succ, List.getD_cons_zero] at hne ⊢ <;> apply propext <;> omega
theorem eqW {a b : List Nat} (ha : a.length = 4) (hb : b.length = 4) (hup : ∀ j, a.getD j 0 = b.getD j 0) : valW a ≤ valW b := by
  have : a = b := by
    apply List.ext_getElem (by omega)
    intro i h1 h2
    have := hup i
    simpa [List.getD_eq_getElem?_getD, h1, h2] using this
  rw [this]; exact Nat.le_refl _
/-! ### Roots -/
def powN (m : Nat) (cubes : Bool) : Nat := bif cubes then m * m * m else m * m
def topN (n : Nat) (cubes : Bool) : Nat := bif cubes then n * 79228162514264337593543950336 else n * 18446744073709551616
def rootOk (n : Nat) (cubes : Bool) (m : Nat) : Bool := Nat.ble (powN m cubes) (topN n cubes)
theorem rootOk_mono {n : Nat} {cubes : Bool} {m k : Nat} (h : m ≤ k) (hk : rootOk n cubes k = true) : rootOk n cubes m = true := by
  unfold rootOk powN at *
  cases cubes <;> simp only [cond_true, cond_false, Nat.ble_eq] at * <;> refine Nat.le_trans ?_ hk
  · exact Nat.mul_le_mul h h
  · exact Nat.mul_le_mul (Nat.mul_le_mul h h) h
theorem root_uniq {n : Nat} {cubes : Bool} {q r : Nat} (h1 : rootOk n cubes q = true) (h2 : rootOk n cubes (q + 1) = false) (h3 : rootOk n cubes r = true) (h4 : rootOk n cubes (r + 1) = false) : q = r := by
  rcases Nat.lt_trichotomy q r with h | h | h
  · have := rootOk_mono (show q + 1 ≤ r by omega) h3
    rw [h2] at this; cases this
  · exact h
  · have := rootOk_mono (show r + 1 ≤ q by omega) h1
    rw [h4] at this; cases this
def bis (n : Nat) (cubes : Bool) : Nat → Nat → Nat → Nat
  | 0, lo, _ => lo
  | f + 1, lo, hi => bif rootOk n cubes ((lo + hi) / 2) then bis n cubes f ((lo + hi) / 2) hi else bis n cubes f lo ((lo + hi) / 2)
def rootN (n : Nat) (cubes : Bool) : Nat := bis n cubes (bif cubes then 35 else 36) 0 (bif cubes then 34359738368 else 68719476736)
def rootW (n : Nat) (cubes : Bool) : UInt32 := UInt32.ofNat (rootN n cubes)
def prs : List Nat := [2, 3, 5, 7, 11, 13, 17, 19, 23, 29, 31, 37, 41, 43, 47, 53, 59, 61, 67, 71, 73, 79, 83, 89, 97, 101, 103, 107, 109, 113, 127, 131, 137, 139, 149, 151, 157, 163, 167, 173, 179, 181, 191, 193, 197, 199, 211, 223, 227, 229, 233, 239, 241, 251, 257, 263, 269, 271, 277, 281, 283, 293, 307, 311]
theorem prs_len : prs.length = 64 := rfl
def rootGood (n : Nat) (cubes : Bool) : Bool := rootOk n cubes (rootN n cubes) && !rootOk n cubes (rootN n cubes + 1)
theorem good_c : (prs.all fun p => rootGood p true) = true := by decide +kernel
theorem good_s : ((prs.take 8).all fun p => rootGood p false) = true := by decide +kernel
theorem roots_c : prs.map (rootW · true) = shK := by decide +kernel
theorem roots_s : (prs.take 8).map (rootW · false) = shI.l := by decide +kernel
/-- what a bisection ends with -/
theorem root_is {n q : Nat} {cubes : Bool} (hg : rootGood n cubes = true) (h1 : rootOk n cubes q = true) (h2 : rootOk n cubes (q + 1) = false) : UInt32.ofNat q = rootW n cubes := by
  unfold rootGood at hg
  simp only [Bool.and_eq_true, Bool.not_eq_true'] at hg
  unfold rootW
  rw [root_uniq h1 h2 hg.1 hg.2]
/-- the numbers in front of which k primes stand: 2, .., k + 1 -/
def pr : Nat → List Nat
  | 0 => []
  | i + 1 => bif (pr i).all (fun q => !Nat.beq ((i + 2) % q) 0) then pr i ++ [i + 2] else pr i
theorem pr_pre : ∀ (i k : Nat), ∃ r, pr (i + k) = pr i ++ r
  | i, 0 => ⟨[], by simp⟩
  | i, k + 1 => by
    obtain ⟨r, h⟩ := pr_pre i k
    rw [← Nat.add_assoc]
    simp only [pr]
    cases (pr (i + k)).all (fun q => !Nat.beq ((i + k + 2) % q) 0) with
    | true => exact ⟨r ++ [i + k + 2], by simp only [cond_true]; rw [h, List.append_assoc]⟩
    | false => exact ⟨r, h⟩
theorem pr_end : pr 310 = prs := by decide +kernel
theorem pr_lt {i n : Nat} (hn : n ≤ 64) (h : (pr i).length < n) : i < 310 := by
  rcases Nat.lt_or_ge i 310 with h1 | h1
  · exact h1
  · obtain ⟨r, hr⟩ := pr_pre 310 (i - 310)
    rw [show 310 + (i - 310) = i by omega, pr_end] at hr
    rw [hr, List.length_append, prs_len] at h
    omega
theorem pr_take {i n : Nat} (hn : n ≤ 64) (hi : i ≤ 310) (h : (pr i).length = n) : pr i = prs.take n := by
  obtain ⟨r, hr⟩ := pr_pre i (310 - i)
  rw [show i + (310 - i) = 310 by omega, pr_end] at hr
  rw [hr, ← h]; simp
theorem pr_pos : ∀ (i : Nat), ∀ q ∈ pr i, 2 ≤ q
  | 0, q, h => by simp [pr] at h
  | i + 1, q, h => by
    simp only [pr] at h
    cases hh : (pr i).all (fun q => !Nat.beq ((i + 2) % q) 0) with
    | true =>
      rw [hh] at h
      simp only [cond_true, List.mem_append, List.mem_singleton] at h
      rcases h with h | h
      · exact pr_pos i q h
      · omega
    | false => rw [hh] at h; exact pr_pos i q h
/-! ### Digits -/
def hexL : List UInt8 := [48, 49, 50, 51, 52, 53, 54, 55, 56, 57, 97, 98, 99, 100, 101, 102]
def hx (n : Nat) : UInt8 := hexL.getD n 0
def hxI (c : UInt8) : Int := idx (fun y => decide (c = y)) hexL
def isHex (c : UInt8) : Bool := decide (0 ≤ hxI c)
def hval (c : UInt8) : UInt8 := UInt8.ofNat (hxI c).toNat
def fmt (bs : List UInt8) : List UInt8 := bs.flatMap fun c => [hx (c.toNat / 16), hx (c.toNat % 16)]
def inRng (c : UInt8) : Bool := (decide (48 ≤ c.toNat) && decide (c.toNat ≤ 57)) || (decide (97 ≤ c.toNat) && decide (c.toNat ≤ 102))
theorem hex_get {n : Nat} (h : n < 16) : hexL[n]? = some (hx n) := by
  unfold hx
  rw [List.getD_eq_getElem?_getD, List.getElem?_eq_getElem (show n < hexL.length from h)]
  rfl
theorem all256 {Q : UInt8 → Bool} (h : (List.range 256).all (fun n => Q (UInt8.ofNat n)) = true) (c : UInt8) : Q c = true := by
  rw [List.all_eq_true] at h
  have := h c.toNat (List.mem_range.2 c.toNat_lt)
  rwa [UInt8.ofNat_toNat] at this
theorem isHex_rng (c : UInt8) : isHex c = inRng c := by
  have := all256 (Q := fun c => isHex c == inRng c) (by decide +kernel) c
  simpa using this
theorem hxI_bnd (c : UInt8) : -1 ≤ hxI c ∧ hxI c < 16 := by
  have := all256 (Q := fun c => decide (-1 ≤ hxI c ∧ hxI c < 16)) (by decide +kernel) c
  simpa using this
theorem hx_hex {n : Nat} (h : n < 16) : isHex (hx n) = true ∧ hval (hx n) = UInt8.ofNat n := by
  have : ((List.range 16).all fun n => isHex (hx n) && hval (hx n) == UInt8.ofNat n) = true := by decide +kernel
  rw [List.all_eq_true] at this
  have := this n (List.mem_range.2 h)
  simpa using this
theorem nib_eq (c : UInt8) : (UInt8.ofNat (c.toNat / 16) <<< 4) ||| UInt8.ofNat (c.toNat % 16) = c := by
  have := all256 (Q := fun c => ((UInt8.ofNat (c.toNat / 16) <<< 4) ||| UInt8.ofNat (c.toNat % 16)) == c) (by decide +kernel) c
  simpa using this
theorem hex_back {c : UInt8} (h : isHex c = true) : ∃ n, n < 16 ∧ c = hx n := by
  have := all256 (Q := fun c => !isHex c || (List.range 16).any fun n => c == hx n) (by decide +kernel) c
  rw [h] at this
  simpa using this
theorem nib_back {a b : UInt8} (ha : isHex a = true) (hb : isHex b = true) : hx (((hval a <<< 4) ||| hval b).toNat / 16) = a ∧ hx (((hval a <<< 4) ||| hval b).toNat % 16) = b := by
  obtain ⟨n, hn, rfl⟩ := hex_back ha
  obtain ⟨m, hm, rfl⟩ := hex_back hb
  rw [(hx_hex hn).2, (hx_hex hm).2]
  have : ((List.range 16).all fun n => (List.range 16).all fun m => decide (hx (((UInt8.ofNat n <<< 4) ||| UInt8.ofNat m).toNat / 16) = hx n ∧ hx (((UInt8.ofNat n <<< 4) ||| UInt8.ofNat m).toNat % 16) = hx m)) = true := by decide +kernel
  rw [List.all_eq_true] at this
  have := this n (List.mem_range.2 hn)
  rw [List.all_eq_true] at this
  have := this m (List.mem_range.2 hm)
  simpa using this
def unh : List UInt8 → List UInt8
  | a :: b :: r => ((hval a <<< 4) ||| hval b) :: unh r
  | _ => []
theorem fmt_len (bs : List UInt8) : (fmt bs).length = 2 * bs.length := by
  unfold fmt
  induction bs with
  | nil => rfl
  | cons x r ih => rw [List.flatMap_cons, List.length_append, ih]; simp only [List.length_cons, List.length_nil]; omega
theorem unh_fmt : ∀ bs : List UInt8, unh (fmt bs) = bs
  | [] => rfl
  | x :: r => by
    have h1 : x.toNat / 16 < 16 := by have := x.toNat_lt; omega
    have h2 : x.toNat % 16 < 16 := Nat.mod_lt _ (by decide)
    show unh (hx (x.toNat / 16) :: hx (x.toNat % 16) :: fmt r) = x :: r
    simp only [unh]
    rw [(hx_hex h1).2, (hx_hex h2).2, nib_eq, unh_fmt r]
theorem fmt_hex (bs : List UInt8) : (fmt bs).all isHex = true := by
  unfold fmt
  rw [List.all_flatMap, List.all_eq_true]
  intro x _
  have h1 : x.toNat / 16 < 16 := by have := x.toNat_lt; omega
  have h2 : x.toNat % 16 < 16 := Nat.mod_lt _ (by decide)
  simp [(hx_hex h1).1, (hx_hex h2).1]
theorem fmt_unh : ∀ (xs : List UInt8), xs.length % 2 = 0 → xs.all isHex = true → fmt (unh xs) = xs
  | [], _, _ => rfl
  | [_], h, _ => by simp at h
  | a :: b :: r, h, hh => by
    simp only [List.all_cons, Bool.and_eq_true] at hh
    have hb := nib_back hh.1 hh.2.1
    simp only [unh]
    show hx _ :: hx _ :: fmt (unh r) = _
    rw [hb.1, hb.2, fmt_unh r (by simp only [List.length_cons] at h; omega) hh.2.2]
/-- the bytes, the first i digits of them read -/
def parD (xs : List UInt8) : Nat → List UInt8
  | 0 => List.replicate 32 0
  | i + 1 => (parD xs i).set (i / 2) (((parD xs i).getD (i / 2) 0 <<< 4) ||| hval (xs.getD i 0))
theorem parD_len (xs : List UInt8) : ∀ i, (parD xs i).length = 32
  | 0 => rfl
  | i + 1 => by simp [parD, parD_len xs i]
theorem unh_app : ∀ (xs : List UInt8) (a b : UInt8), xs.length % 2 = 0 → unh (xs ++ [a, b]) = unh xs ++ [((hval a <<< 4) ||| hval b)]
  | [], a, b, _ => rfl
  | [_], a, b, h => by simp at h
  | x :: y :: r, a, b, h => by
    simp only [List.cons_append, unh]
    rw [unh_app r a b (by simp only [List.length_cons] at h; omega)]
theorem unh_len : ∀ (xs : List UInt8), (unh xs).length = xs.length / 2
  | [] => rfl
  | [_] => by simp [unh]
  | _ :: _ :: r => by simp only [unh, List.length_cons, unh_len r]; omega
theorem shl_zero (x : UInt8) : ((0 : UInt8) <<< 4) ||| x = x := by simp
theorem getD_mid {l r : List UInt8} {k : Nat} {c : UInt8} (h : l.length = k) : (l ++ c :: r).getD k 0 = c := by
  subst h
  rw [List.getD_eq_getElem?_getD, List.getElem?_append_right (Nat.le_refl _), Nat.sub_self]; rfl
theorem set_mid {l r : List UInt8} {k : Nat} {c d : UInt8} (h : l.length = k) : (l ++ c :: r).set k d = l ++ d :: r := by
  subst h
  rw [List.set_append_right _ _ (Nat.le_refl _), Nat.sub_self]; rfl
theorem parD_eq (xs : List UInt8) (hl : xs.length = 64) : ∀ k, k ≤ 32 → parD xs (2 * k) = unh (xs.take (2 * k)) ++ List.replicate (32 - k) 0
  | 0, _ => by simp [parD, unh]
  | k + 1, h => by
    have ih := parD_eq xs hl k (by omega)
    obtain ⟨a, ha⟩ : ∃ a, xs[2 * k]? = some a := ⟨_, List.getElem?_eq_getElem (by omega)⟩
    obtain ⟨b, hb⟩ : ∃ b, xs[2 * k + 1]? = some b := ⟨_, List.getElem?_eq_getElem (by omega)⟩
    have hul : (unh (xs.take (2 * k))).length = k := by rw [unh_len, List.length_take]; omega
    have ht : xs.take (2 * (k + 1)) = xs.take (2 * k) ++ [a, b] := by
      rw [show 2 * (k + 1) = 2 * k + 1 + 1 by omega, take_snoc hb, take_snoc ha, List.append_assoc]; rfl
    rw [show 2 * (k + 1) = 2 * k + 1 + 1 by omega]
    simp only [parD]
    rw [ih, show (2 * k + 1) / 2 = k by omega, show 2 * k / 2 = k by omega, show 32 - k = (32 - (k + 1)) + 1 by omega, List.replicate_succ, getD_mid hul, set_mid hul, getD_mid hul, set_mid hul,
      show 2 * k + 1 + 1 = 2 * (k + 1) by omega, ht, unh_app _ _ _ (by rw [List.length_take]; omega), List.append_assoc]
    have e1 : xs.getD (2 * k) 0 = a := by rw [List.getD_eq_getElem?_getD, ha]; rfl
    have e2 : xs.getD (2 * k + 1) 0 = b := by rw [List.getD_eq_getElem?_getD, hb]; rfl
    rw [e1, e2, shl_zero]
    rfl
def okP (xs : List UInt8) : Bool := decide (xs.length = 64) && xs.all isHex
def parse (xs : List UInt8) : List UInt8 := if okP xs = true then parD xs 64 else List.replicate 32 0
theorem parse_len (xs : List UInt8) : (parse xs).length = 32 := by
  unfold parse
  split
  · exact parD_len _ _
  · rfl
theorem parD_full {xs : List UInt8} (hl : xs.length = 64) : parD xs 64 = unh xs := by
  have := parD_eq xs hl 32 (by decide)
  rw [show 2 * 32 = 64 from rfl] at this
  rw [this, List.take_of_length_le (by omega)]; simp
theorem parse_fmt {bs : List UInt8} (h : bs.length = 32) : okP (fmt bs) = true ∧ parse (fmt bs) = bs := by
  have hl : (fmt bs).length = 64 := by rw [fmt_len, h]
  have ho : okP (fmt bs) = true := by unfold okP; rw [fmt_hex, decide_eq_true hl]; rfl
  refine ⟨ho, ?_⟩
  unfold parse
  rw [if_pos ho, parD_full hl, unh_fmt]
theorem fmt_parse {xs : List UInt8} (h : okP xs = true) : fmt (parse xs) = xs := by
  unfold parse
  rw [if_pos h]
  unfold okP at h
  simp only [Bool.and_eq_true, decide_eq_true_eq] at h
  rw [parD_full h.1, fmt_unh xs (by omega) h.2]
theorem right_ok (xs : List UInt8) : (xs.all inRng && decide (xs.length = 64)) = okP xs := by
  unfold okP
  rw [Bool.and_comm]
  congr 2
  funext c
  exact (isHex_rng c).symm
theorem sha_nil : (fmt (sha [])).take 8 = [101, 51, 98, 48, 99, 52, 52, 50] := by decide +kernel
theorem sha_abc : (fmt (sha [97, 98, 99])).take 8 = [98, 97, 55, 56, 49, 54, 98, 102] := by decide +kernel
end Go.Pl
