/- Plain laws of plans: the chunks of commands, numbered. No condition. -/
import Derived.Test.YtaehgpeenaomcaaGreatBs4
namespace Go.Pl
set_option linter.unusedVariables false
/-- the steps: each chunk with the number of its command -/
def steps (s : Int) : Nat → List Cm → List (Nat × Cm)
  | _, [] => []
  | b, c :: r => (chunks c s).map (fun d => (b, d)) ++ steps s (b + 1) r
/-- the number of the first step of command k -/
def first (s : Int) : List Cm → Nat → Int
  | _, 0 => 0
  | [], _ + 1 => 0
  | c :: r, k + 1 => chCount c s + first s r k
/-- the bytes that the commands ahead of command k write -/
def before : List Cm → Nat → Int
  | _, 0 => 0
  | [], _ + 1 => 0
  | c :: r, k + 1 => clen c + before r k
/-- commands without an error and with few chunks -/
def fewC (s : Int) (cs : List Cm) : Prop := ∀ c ∈ cs, ccheck c = 0 ∧ chCount c s ≤ 1048576
theorem steps_app (s : Int) : ∀ (xs ys : List Cm) (b : Nat), steps s b (xs ++ ys) = steps s b xs ++ steps s (b + xs.length) ys
  | [], ys, b => rfl
  | x :: r, ys, b => by
    simp only [List.cons_append, steps, steps_app s r ys (b + 1), List.append_assoc, List.length_cons]
    rw [show b + 1 + r.length = b + (r.length + 1) by omega]
theorem steps_next {s : Int} {cs : List Cm} {i : Nat} {c : Cm} (h : cs[i]? = some c) : steps s 0 (cs.take (i + 1)) = steps s 0 (cs.take i) ++ (chunks c s).map (fun d => (i, d)) := by
  have hl : (cs.take i).length = i := by rw [List.length_take]; have := (List.getElem?_eq_some_iff.1 h).1; omega
  rw [List.take_add_one, h, steps_app, hl]
  simp [steps]
theorem first_next (s : Int) : ∀ {cs : List Cm} {i : Nat} {c : Cm}, cs[i]? = some c → first s cs (i + 1) = first s cs i + chCount c s
  | [], i, c, h => by simp at h
  | d :: r, 0, c, h => by simp only [List.getElem?_cons_zero, Option.some.injEq] at h; subst h; cases r <;> simp [first]
  | d :: r, i + 1, c, h => by
    simp only [List.getElem?_cons_succ] at h
    have := first_next s h
    simp only [first, this]; omega
theorem before_next : ∀ {cs : List Cm} {i : Nat} {c : Cm}, cs[i]? = some c → before cs (i + 1) = before cs i + clen c
  | [], i, c, h => by simp at h
  | d :: r, 0, c, h => by simp only [List.getElem?_cons_zero, Option.some.injEq] at h; subst h; cases r <;> simp [before]
  | d :: r, i + 1, c, h => by
    simp only [List.getElem?_cons_succ] at h
    have := before_next h
    simp only [before, this]; omega
theorem first_nonneg {s : Int} : ∀ {cs : List Cm} (k : Nat), fewC s cs → 0 ≤ first s cs k
  | _, 0, _ => by unfold first; omega
  | [], k + 1, _ => by simp [first]
  | c :: r, k + 1, h => by
    have h1 := chCount_nonneg (s := s) (h c (by simp)).1
    have h2 := first_nonneg (cs := r) k (fun d hd => h d (by simp [hd]))
    simp only [first]; omega
theorem chunks_lenI {s : Int} {c : Cm} (h : ccheck c = 0 ∧ chCount c s ≤ 1048576) : ((chunks c s).length : Int) = chCount c s :=
  chunks_count (chCount_nonneg h.1).1 h.2
theorem steps_len {s : Int} : ∀ {cs : List Cm} (b : Nat), fewC s cs → ((steps s b cs).length : Int) = first s cs cs.length
  | [], b, _ => rfl
  | c :: r, b, h => by
    have h1 := chunks_lenI (h c (by simp))
    have h2 := steps_len (cs := r) (b + 1) (fun d hd => h d (by simp [hd]))
    simp only [steps, List.length_append, List.length_map, List.length_cons, first]; omega
/-- step i, which belongs to command k -/
theorem steps_get {s : Int} : ∀ {cs : List Cm} {b k i : Nat} {c : Cm}, fewC s cs → cs[k]? = some c → first s cs k ≤ i → (i : Int) < first s cs (k + 1) → (steps s b cs)[i]? = some (b + k, chAt c s (i - first s cs k))
  | [], b, k, i, c, _, h, _, _ => by simp at h
  | d :: r, b, 0, i, c, hf, h, h1, h2 => by
    simp only [List.getElem?_cons_zero, Option.some.injEq] at h
    subst h
    have hl := chunks_lenI (hf d (by simp))
    have e0 : first s (d :: r) 0 = 0 := rfl
    have e1 : first s (d :: r) (0 + 1) = chCount d s := by cases r <;> simp [first]
    rw [e1] at h2
    rw [e0, Int.sub_zero]
    simp only [steps]
    rw [List.getElem?_append_left (by rw [List.length_map]; omega), List.getElem?_map, chunks_get (by have := (hf d (by simp)).2; omega) h2]
    rfl
  | d :: r, b, k + 1, i, c, hf, h, h1, h2 => by
    simp only [List.getElem?_cons_succ] at h
    have hl := chunks_lenI (hf d (by simp))
    have hr : fewC s r := fun x hx => hf x (by simp [hx])
    have h0 := first_nonneg (s := s) (cs := r) k hr
    have e1 : first s (d :: r) (k + 1) = chCount d s + first s r k := rfl
    have e2 : first s (d :: r) (k + 1 + 1) = chCount d s + first s r (k + 1) := rfl
    rw [e1] at h1
    rw [e2] at h2
    have ih := steps_get (b := b + 1) (i := i - (chunks d s).length) hr h (by omega) (by omega)
    simp only [steps]
    rw [List.getElem?_append_right (by rw [List.length_map]; omega), List.length_map, ih, e1]
    rw [show b + 1 + k = b + (k + 1) by omega, show ((i - (chunks d s).length : Nat) : Int) - first s r k = (i : Int) - (chCount d s + first s r k) by omega]
theorem first_mono {s : Int} {cs : List Cm} (h : fewC s cs) : ∀ {j k : Nat}, j ≤ k → k ≤ cs.length → first s cs j ≤ first s cs k := fun {j k} hjk hk => by
  induction k with
  | zero => obtain rfl : j = 0 := by omega
            exact Int.le_refl _
  | succ k ih =>
    rcases Nat.lt_or_ge j (k + 1) with hlt | hge
    · have h1 := ih (by omega) (by omega)
      obtain ⟨c, hc⟩ : ∃ c, cs[k]? = some c := ⟨_, List.getElem?_eq_getElem (by omega)⟩
      have h2 := chCount_nonneg (s := s) (h c (List.mem_of_getElem? hc)).1
      rw [first_next s hc]; omega
    · obtain rfl : j = k + 1 := by omega
      exact Int.le_refl _
/-- the command of a step -/
theorem find_cmd {s : Int} {cs : List Cm} (h : fewC s cs) {i : Int} (h0 : 0 ≤ i) (h1 : i < first s cs cs.length) : ∃ k : Nat, k < cs.length ∧ first s cs k ≤ i ∧ i < first s cs (k + 1) := by
  have : ∀ n : Nat, n ≤ cs.length → i < first s cs n → ∃ k : Nat, k < n ∧ first s cs k ≤ i ∧ i < first s cs (k + 1) := fun n => by
    induction n with
    | zero => intro _ hlt; have e : first s cs 0 = 0 := by unfold first; rfl
              omega
    | succ n ih =>
      intro hn hlt
      rcases Int.lt_or_le i (first s cs n) with hl | hl
      · obtain ⟨k, hk, h2⟩ := ih (by omega) hl
        exact ⟨k, by omega, h2⟩
      · exact ⟨n, by omega, hl, hlt⟩
  exact this cs.length (Nat.le_refl _) h1
/-- what steps write in all -/
def wsum : List (Nat × Cm) → Int
  | [] => 0
  | x :: r => clen x.2 + wsum r
theorem wsum_app : ∀ xs ys : List (Nat × Cm), wsum (xs ++ ys) = wsum xs + wsum ys
  | [], ys => by simp [wsum]
  | x :: r, ys => by simp only [List.cons_append, wsum, wsum_app r ys]; omega
theorem wsum_chunks {s : Int} {c : Cm} (h : ccheck c = 0 ∧ chCount c s ≤ 1048576) (b : Nat) : ∀ j : Nat, (j : Int) ≤ chCount c s → wsum (((chunks c s).map (fun d => (b, d))).take j) = chSum c s j
  | 0, _ => by rw [chSum_zero h.1]; rfl
  | j + 1, hj => by
    have ih := wsum_chunks h b j (by omega)
    rw [List.take_add_one, wsum_app, ih, List.getElem?_map, chunks_get h.2 (by omega), chSum_next h.1 (by omega)]
    simp [wsum]
theorem steps_one {s : Int} {cs : List Cm} (h : fewC s cs) {i : Nat} {x : Nat × Cm} (hx : (steps s 0 cs)[i]? = some x) : ∃ (k : Nat) (c : Cm), cs[k]? = some c ∧ x = (k, chAt c s (i - first s cs k)) ∧ first s cs k ≤ i ∧ (i : Int) < first s cs (k + 1) := by
  have hl := steps_len 0 h
  have hi := (List.getElem?_eq_some_iff.1 hx).1
  obtain ⟨k, hk, h1, h2⟩ := find_cmd h (i := i) (by omega) (by omega)
  refine ⟨k, cs[k], List.getElem?_eq_getElem hk, ?_, h1, h2⟩
  have := steps_get (b := 0) h (List.getElem?_eq_getElem hk) h1 h2
  rw [hx, Nat.zero_add] at this
  exact Option.some.inj this
theorem first_uniq {s : Int} {cs : List Cm} (h : fewC s cs) {i : Int} {j k : Nat} (hj : j < cs.length) (hk : k < cs.length) (h1 : first s cs j ≤ i ∧ i < first s cs (j + 1)) (h2 : first s cs k ≤ i ∧ i < first s cs (k + 1)) : j = k := by
  rcases Nat.lt_trichotomy j k with hl | he | hl
  · have := first_mono h (j := j + 1) (k := k) hl (by omega); omega
  · exact he
  · have := first_mono h (j := k + 1) (k := j) hl (by omega); omega
theorem steps_before {s : Int} {cs : List Cm} (h : fewC s cs) {i k : Nat} {x : Nat × Cm} (hk : k ≤ cs.length) (hi : (i : Int) < first s cs k) (hx : (steps s 0 cs)[i]? = some x) : x.1 < k := by
  obtain ⟨j, c, hj, rfl, h1, h2⟩ := steps_one h hx
  rcases Nat.lt_or_ge j k with hl | hg
  · exact hl
  · have := first_mono h hg (Nat.le_of_lt (List.getElem?_eq_some_iff.1 hj).1); omega
/-- how much the first i steps write -/
theorem wsum_steps {s : Int} (hs : 1 ≤ s) : ∀ {cs : List Cm} {b k i : Nat} {c : Cm}, fewC s cs → cs[k]? = some c → first s cs k ≤ i → (i : Int) ≤ first s cs (k + 1) → wsum ((steps s b cs).take i) = before cs k + chSum c s ((i : Int) - first s cs k).toNat
  | [], b, k, i, c, _, h, _, _ => by simp at h
  | d :: r, b, 0, i, c, hf, h, h1, h2 => by
    simp only [List.getElem?_cons_zero, Option.some.injEq] at h
    subst h
    have hl := chunks_lenI (hf d (by simp))
    have e0 : first s (d :: r) 0 = 0 := rfl
    have e1 : first s (d :: r) (0 + 1) = chCount d s := by cases r <;> simp [first]
    rw [e1] at h2
    rw [e0]
    simp only [steps]
    rw [List.take_append_of_le_length (by rw [List.length_map]; omega), wsum_chunks (hf d (by simp)) b i h2]
    have e2 : ((i : Int) - 0).toNat = i := by omega
    rw [e2]
    simp [before]
  | d :: r, b, k + 1, i, c, hf, h, h1, h2 => by
    simp only [List.getElem?_cons_succ] at h
    have hd := hf d (by simp)
    have hl := chunks_lenI hd
    have hr : fewC s r := fun x hx => hf x (by simp [hx])
    have h0 := first_nonneg (s := s) (cs := r) k hr
    have e1 : first s (d :: r) (k + 1) = chCount d s + first s r k := rfl
    have e2 : first s (d :: r) (k + 1 + 1) = chCount d s + first s r (k + 1) := rfl
    rw [e1] at h1
    rw [e2] at h2
    have ih := wsum_steps hs (b := b + 1) (i := i - (chunks d s).length) hr h (by omega) (by omega)
    have ha := wsum_chunks hd b (chunks d s).length (by omega)
    rw [List.take_of_length_le (by rw [List.length_map]; exact Nat.le_refl _), chSum_end hd.1 hs hl] at ha
    simp only [steps]
    rw [List.take_append, List.take_of_length_le (by rw [List.length_map]; omega), wsum_app, ha, List.length_map, ih, e1]
    have e3 : ((i - (chunks d s).length : Nat) : Int) - first s r k = (i : Int) - (chCount d s + first s r k) := by omega
    rw [e3]
    simp only [before]; omega
theorem wsum_all {s : Int} (hs : 1 ≤ s) {cs : List Cm} (h : fewC s cs) (b : Nat) : wsum (steps s b cs) = before cs cs.length := by
  induction cs generalizing b with
  | nil => rfl
  | cons d r ih =>
    have hd := h d (by simp)
    have hl := chunks_lenI hd
    have ha := wsum_chunks hd b (chunks d s).length (by omega)
    rw [List.take_of_length_le (by rw [List.length_map]; exact Nat.le_refl _), chSum_end hd.1 hs hl] at ha
    simp only [steps, wsum_app, ha, ih (fun x hx => h x (by simp [hx])), List.length_cons, before]
end Go.Pl
