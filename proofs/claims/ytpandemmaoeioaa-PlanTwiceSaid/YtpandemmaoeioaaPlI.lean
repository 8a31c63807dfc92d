/- Plain law of plans: the total of the targets. No condition. -/
import Derived.Test.YtpandemmaoeioaaPlH
import Derived.Test.YtpandemmaoeioaaPlG
import Derived.Test.YtpandemmaoeioaaPlF
import Derived.Test.YtpandemmaoeioaaCxE
namespace Go.Pl
set_option linter.unusedVariables false
set_option linter.unusedSimpArgs false
def targets (cs : List Cm) : List (Int × Int) := cs.map fun c => (c.to, clen c)
theorem targets_take (cs : List Cm) (i : Nat) : targets (cs.take i) = (targets cs).take i := by simp [targets]
theorem targets_ok {cs : List Cm} (h : ∀ c ∈ cs, ccheck c = 0) : ∀ x ∈ targets cs, okE x := fun x hx => by
  obtain ⟨c, hc, rfl⟩ := List.mem_map.1 hx
  have := ccheck_ok (h c hc)
  simp only [okE]; omega
theorem total_before : ∀ {cs : List Cm} {n T : Int}, total n (targets cs) = some T → n ≤ 4611686018427387903 → (∀ c ∈ cs, 0 ≤ clen c) → ∀ k, 0 ≤ before cs k ∧ n + before cs k ≤ 4611686018427387903
  | cs, n, T, h, hn, hc, 0 => by simp [before, hn]
  | [], n, T, h, hn, hc, k + 1 => by simp [before, hn]
  | c :: r, n, T, h, hn, hc, k + 1 => by
    simp only [targets, List.map_cons, total] at h
    split at h
    · cases h
    · rename_i hle
      have := total_before (cs := r) h (by omega) (fun d hd => hc d (by simp [hd])) k
      have hc0 := hc c (by simp)
      simp only [before]; omega
theorem rg_get {α : Type} {f : Nat → α} {i k : Nat} (h : k ≤ i) : ((List.range (i + 1)).map f)[k]? = some (f k) := by
  rw [List.getElem?_map, List.getElem?_range (by omega)]; rfl
theorem steps_ok {s : Int} : ∀ {cs : List Cm} {b : Nat}, (∀ c ∈ cs, ccheck c = 0) → ∀ x ∈ steps s b cs, ccheck x.2 = 0 ∧ b ≤ x.1 ∧ x.1 < b + cs.length
  | [], b, _, x, hx => by simp [steps] at hx
  | c :: r, b, h, x, hx => by
    simp only [steps, List.mem_append, List.mem_map] at hx
    rcases hx with ⟨d, hd, rfl⟩ | hx
    · exact ⟨chunks_ok (h c (by simp)) d hd, Nat.le_refl _, by simp⟩
    · have := steps_ok (b := b + 1) (fun d hd => h d (by simp [hd])) x hx
      simp only [List.length_cons]
      exact ⟨this.1, by omega, by omega⟩
theorem clen_nonneg {c : Cm} (h : ccheck c = 0) : 0 ≤ clen c := by have := ccheck_ok h; omega
theorem wsum_take {xs : List (Nat × Cm)} (h : ∀ x ∈ xs, ccheck x.2 = 0) : ∀ j, 0 ≤ wsum (xs.take j) ∧ wsum (xs.take j) ≤ wsum xs := by
  induction xs with
  | nil => intro j; simp [wsum]
  | cons x r ih =>
    intro j
    have h1 := clen_nonneg (h x (by simp))
    have ih := ih fun y hy => h y (by simp [hy])
    cases j with
    | zero => have := ih r.length; simp only [List.take_length] at this; simp only [List.take_zero, wsum]; omega
    | succ j => have := ih j; simp only [List.take_succ_cons, wsum]; omega
theorem wsum_bnd {s : Int} {cs : List Cm} (hs : 1 ≤ s) (h : fewC s cs) (hb : before cs cs.length ≤ 4611686018427387903) : ∀ j, 0 ≤ wsum ((steps s 0 cs).take j) ∧ wsum ((steps s 0 cs).take j) ≤ 4611686018427387903 := fun j => by
  have h1 := wsum_take (xs := steps s 0 cs) (fun x hx => (steps_ok (b := 0) (fun c hc => (h c hc).1) x hx).1) j
  rw [wsum_all hs h] at h1
  omega
/-- the first step of a command -/
theorem steps_first {s k : Int} {cs : List Cm} (hs : 1 ≤ s) (h : fewC s cs) : idx (fun x : Nat × Cm => decide ((x.1 : Int) = k)) (steps s 0 cs) = if 0 ≤ k ∧ k < (cs.length : Nat) then first s cs k.toNat else -1 := by
  split
  · rename_i hk
    obtain ⟨kn, rfl⟩ : ∃ kn : Nat, k = kn := ⟨k.toNat, by omega⟩
    obtain ⟨c, hc⟩ : ∃ c, cs[kn]? = some c := ⟨_, List.getElem?_eq_getElem (by omega)⟩
    have h0 := first_nonneg (s := s) kn h
    have h1 := first_next s hc
    have h2 := chCount_pos (h c (List.mem_of_getElem? hc)).1 hs
    have h3 := steps_get (b := 0) (i := (first s cs kn).toNat) h hc (by omega) (by omega)
    rw [idx_first h3 (by simp) (fun j y hj hy => ?_)]
    · rw [Int.toNat_natCast]; omega
    · have := steps_before h (by omega : kn ≤ cs.length) (by omega) hy
      simp only [decide_eq_false_iff_not]; omega
  · rename_i hk
    refine idx_none fun j y hj hy => ?_
    have := steps_ok (b := 0) (fun c hc => (h c hc).1) y (List.mem_of_getElem? hy)
    simp only [decide_eq_false_iff_not]; omega
theorem idx_map {α β : Type} (f : α → β) (p : β → Bool) (xs : List α) : idx p (xs.map f) = idx (fun x => p (f x)) xs := by
  unfold idx
  rw [List.findIdx?_map]; rfl
/-- the total of any extents at all -/
def totW : Int → List (Int × Int) → Option Int
  | n, [] => some n
  | n, e :: r => if IntKind.i64.wrap (4611686018427387903 - n) < e.2 then none else totW (IntKind.i64.wrap (n + e.2)) r
theorem totW_eq : ∀ {xs : List (Int × Int)} {n : Int}, 0 ≤ n → n ≤ 4611686018427387903 → (∀ x ∈ xs, okE x) → totW n xs = total n xs
  | [], n, _, _, _ => rfl
  | e :: r, n, h0, h1, h => by
    have he := h e (by simp)
    unfold okE at he
    unfold totW total
    have w1 : IntKind.i64.wrap (4611686018427387903 - n) = 4611686018427387903 - n := Cx.i64w (by omega) (by omega)
    have w2 : IntKind.i64.wrap (n + e.2) = n + e.2 := Cx.i64w (by omega) (by omega)
    rw [w1, w2]
    by_cases hc : 4611686018427387903 < n + e.2
    · rw [if_pos hc, if_pos (by omega)]
    · rw [if_neg hc, if_neg (by omega)]
      exact totW_eq (by omega) (by omega) fun x hx => h x (by simp [hx])
/-- the chunks of some steps -/
def part (st : List (Nat × Cm)) (a k : Nat) : List Cm := ((st.drop a).take k).map (·.2)
theorem part_next {st : List (Nat × Cm)} {a i k : Nat} {d : Cm} (h : st[a + i]? = some (k, d)) : part st a (i + 1) = part st a i ++ [d] := by
  unfold part
  rw [List.take_add_one, List.getElem?_drop, h, List.map_append]
  rfl
theorem part_mem {st : List (Nat × Cm)} {a k : Nat} {d : Cm} (h : d ∈ part st a k) : ∃ x ∈ st, x.2 = d := by
  obtain ⟨x, hx, rfl⟩ := List.mem_map.1 h
  exact ⟨x, List.mem_of_mem_drop (List.mem_of_mem_take hx), rfl⟩
theorem part_len (st : List (Nat × Cm)) (a k : Nat) : (part st a k).length ≤ st.length := by
  unfold part
  rw [List.length_map, List.length_take, List.length_drop]
  omega
theorem exs_app {f : List UInt8} {xs ys : List Cm} (hx : ∀ c ∈ xs, ccheck c = 0) : exs f (xs ++ ys) = (exs f xs).bind fun g => exs g ys := by
  unfold exs
  rw [List.all_append]
  cases h1 : xs.all (cfits f.length) with
  | false => simp
  | true =>
    have hl := exl_length hx h1
    simp only [Bool.true_and, if_true, Option.bind_some, hl, List.foldl_append]
theorem exs_len {f g : List UInt8} {xs : List Cm} (hx : ∀ c ∈ xs, ccheck c = 0) (h : exs f xs = some g) : g.length = f.length := by
  unfold exs at h
  split at h
  · rename_i ha
    cases h
    exact exl_length hx ha
  · cases h
/-- a chunk that does not overlap itself, executed twice -/
theorem ex1_twice {f g : List UInt8} {c : Cm} (hc : ccheck c = 0) (ho : covl c = false) (h : exs f [c] = some g) : exs g [c] = some g := by
  have hk := ccheck_ok hc
  have hgl := exs_len (by simpa using hc) h
  unfold exs at h ⊢
  split at h
  · rename_i ha
    have hf : cfits f.length c = true := by simpa using ha
    rw [hgl, if_pos ha]
    cases h
    simp only [List.foldl_cons, List.foldl_nil]
    congr 1
    have hw := wrt_length hc hf
    have hfc := hf
    simp only [cfits, Bool.and_eq_true, Bool.or_eq_true, decide_eq_true_eq] at hfc
    have hb1 : c.to.toNat + (wrt f c).length ≤ f.length := by omega
    have e : wrt (ex1 f c) c = wrt f c := by
      by_cases hk1 : c.k = 1
      · have hno := covl_not hc hk1 ho
        unfold wrt
        rw [if_pos hk1, if_pos hk1]
        apply List.ext_getElem?
        intro j
        rw [piece_get, piece_get]
        split
        · rename_i hj
          unfold ex1
          rw [put_get hb1, if_neg]
          have : clen c = c.ln := by simp [clen, hk1]
          omega
        · rfl
      · unfold wrt; rw [if_neg hk1, if_neg hk1]
    show put (ex1 f c) c.to.toNat (wrt (ex1 f c) c) = ex1 f c
    rw [e]
    unfold ex1
    apply List.ext_getElem?
    intro j
    have hb2 : c.to.toNat + (wrt f c).length ≤ (put f c.to.toNat (wrt f c)).length := by rw [put_length hb1]; exact hb1
    rw [put_get hb2, put_get hb1]
    split <;> simp_all
  · cases h
/-- running some steps on a file -/
def runP (f : List UInt8) (st : List (Nat × Cm)) (a b : Int) : Option (List UInt8) := if 0 ≤ a ∧ b ≤ st.length ∧ a ≤ b then exs f (part st a.toNat (b - a).toNat) else none
theorem part_app {st : List (Nat × Cm)} {a k m : Nat} : part st a (k + m) = part st a k ++ part st (a + k) m := by
  unfold part
  rw [← List.map_append, List.take_add, List.drop_drop]
theorem runP_parts {f g : List UInt8} {st : List (Nat × Cm)} {n k : Int} (hst : ∀ x ∈ st, ccheck x.2 = 0) (hk : 0 ≤ k ∧ k ≤ n) (h : runP f st 0 n = some g) : ∃ a, runP f st 0 k = some a ∧ a.length = f.length ∧ runP a st k n = some g := by
  unfold runP at h
  split at h
  · rename_i hn
    have e : (n - 0).toNat = (k - 0).toNat + (n - k).toNat := by omega
    rw [e, show (0 : Int).toNat = 0 by rfl, part_app] at h
    have hm : ∀ c ∈ part st 0 (k - 0).toNat, ccheck c = 0 := fun c hc => by obtain ⟨x, hx, rfl⟩ := part_mem hc; exact hst x hx
    rw [exs_app hm] at h
    obtain ⟨a, h1, h2⟩ := Option.bind_eq_some_iff.1 h
    refine ⟨a, ?_, exs_len hm h1, ?_⟩
    · unfold runP; rw [if_pos (by omega)]; exact h1
    · unfold runP; rw [if_pos (by omega)]
      rw [show 0 + (k - 0).toNat = k.toNat by omega] at h2
      exact h2
  · cases h
theorem runP_len {f g : List UInt8} {st : List (Nat × Cm)} {a b : Int} (hst : ∀ x ∈ st, ccheck x.2 = 0) (h : runP f st a b = some g) : g.length = f.length := by
  unfold runP at h
  split at h
  · exact exs_len (fun c hc => by obtain ⟨x, hx, rfl⟩ := part_mem hc; exact hst x hx) h
  · cases h
theorem runP_le {f : List UInt8} {st : List (Nat × Cm)} {a b : Int} (hst : ∀ x ∈ st, ccheck x.2 = 0) : ((runP f st a b).getD []).length ≤ f.length := by
  cases h : runP f st a b with
  | none => simp
  | some g => simp [runP_len hst h]
theorem runP_one {f : List UInt8} {st : List (Nat × Cm)} {i k : Nat} {d : Cm} (h : st[i]? = some (k, d)) : runP f st i (i + 1) = exs f [d] := by
  have hl := (List.getElem?_eq_some_iff.1 h).1
  unfold runP
  rw [if_pos (by omega), show ((i : Int) + 1 - i).toNat = 0 + 1 by omega, Int.toNat_natCast, part_next (a := i) (i := 0) h]
  rfl
/-- the bytes that a chunk writes into a file, if its source lies in it -/
def bytesOf (f : List UInt8) (d : Cm) : Option (List UInt8) := if d.k = 1 then (if d.fr + d.ln ≤ f.length then some ((f.drop d.fr.toNat).take d.ln.toNat) else none) else some d.bs
end Go.Pl
