/- Plain laws of deltas: what a valid one has, and what executing its commands in place yields. No condition. -/
import Derived.Test.YtaehgpeenaomcaaGreatBs4
namespace Go.Pl
set_option linter.unusedVariables false
set_option linter.unusedSimpArgs false
def dj (a b : Cm) : Prop := a.to + clen a ≤ b.to ∨ b.to + clen b ≤ a.to
def hasB (c : Cm) (x : Int) : Bool := decide (c.to ≤ x) && decide (x < c.to + clen c)
theorem hasB_iff {c : Cm} {x : Int} : hasB c x = true ↔ c.to ≤ x ∧ x < c.to + clen c := by simp [hasB]
def single (o n : Int) (c : Cm) : Int := if ccheck c ≠ 0 then ccheck c else if c.k = 1 ∧ o < c.fr + c.ln then 5 else if n < c.to + clen c then 6 else 0
theorem single_ok {o n : Int} {c : Cm} (h : single o n c = 0) : ccheck c = 0 ∧ (c.k = 1 → c.fr + c.ln ≤ o) ∧ c.to + clen c ≤ n := by
  unfold single at h
  split at h
  · exact absurd h (by assumption)
  · rename_i h1
    split at h
    · cases h
    · rename_i h2
      split at h
      · cases h
      · refine ⟨by omega, fun hk => ?_, by omega⟩
        have : ¬ o < c.fr + c.ln := fun h => h2 ⟨hk, h⟩
        omega
structure VD (o n : Int) (cs : List Cm) : Prop where
  lens : 0 ≤ o ∧ 0 ≤ n ∧ o ≤ 4611686018427387903 ∧ n ≤ 4611686018427387903
  one : ∀ c ∈ cs, single o n c = 0
  dis : ∀ (i j : Nat) ci cj, j < i → cs[i]? = some ci → cs[j]? = some cj → dj ci cj
  cov : ∀ x : Int, 0 ≤ x → x < n → ∃ c ∈ cs, hasB c x = true
noncomputable def vdB (o n : Int) (cs : List Cm) : Bool := @decide (VD o n cs) (Classical.propDecidable _)
theorem vdB_iff {o n : Int} {cs : List Cm} : vdB o n cs = true ↔ VD o n cs := by
  unfold vdB
  exact @decide_eq_true_iff _ (Classical.propDecidable _)
theorem vdB_f {o n : Int} {cs : List Cm} (h : ¬ VD o n cs) : vdB o n cs = false := by
  cases hb : vdB o n cs with
  | false => rfl
  | true => exact absurd (vdB_iff.1 hb) h
def eoff (cs : List Cm) (j : Nat) : Int := match j with
  | 0 => 0
  | j + 1 => match cs[j]? with | some c => c.to + clen c | none => 0
theorem eoff_succ {cs : List Cm} {j : Nat} {c : Cm} (h : cs[j]? = some c) : eoff cs (j + 1) = c.to + clen c := by simp only [eoff, h]
def fnd (cs : List Cm) (x : Int) : Int := idx (fun c => hasB c x) cs
theorem fnd_iff {cs : List Cm} {x : Int} : 0 ≤ fnd cs x ↔ ∃ c ∈ cs, hasB c x = true := by
  have h := idx_nonneg (fun c => hasB c x) cs
  unfold fnd
  constructor
  · intro h0
    rw [decide_eq_true h0] at h
    obtain ⟨c, hc, hb⟩ := List.any_eq_true.1 h.symm
    exact ⟨c, hc, hb⟩
  · rintro ⟨c, hc, hb⟩
    have h1 : cs.any (fun c => hasB c x) = true := List.any_eq_true.2 ⟨c, hc, hb⟩
    rw [h1] at h
    exact of_decide_eq_true h
theorem fnd_some {cs : List Cm} {x : Int} (h : ∃ c ∈ cs, hasB c x = true) : ∃ (j : Nat) (c : Cm), fnd cs x = j ∧ cs[j]? = some c ∧ hasB c x = true := by
  unfold fnd idx
  cases hf : cs.findIdx? (fun c => hasB c x) with
  | none =>
    rw [List.findIdx?_eq_none_iff] at hf
    obtain ⟨c, hc, hb⟩ := h
    have := hf c hc
    rw [hb] at this
    cases this
  | some j =>
    rw [List.findIdx?_eq_some_iff_getElem] at hf
    obtain ⟨h1, h2, _⟩ := hf
    exact ⟨j, cs[j], rfl, List.getElem?_eq_getElem h1, h2⟩
/-- where no offset is a gap's begin, there is no gap -/
theorem cov_of {n : Int} {cs : List Cm} (h : ∀ j, j ≤ cs.length → eoff cs j < n → 0 ≤ fnd cs (eoff cs j)) : ∀ k : Nat, (k : Int) < n → ∃ c ∈ cs, hasB c k = true
  | 0, hk => fnd_iff.1 (h 0 (Nat.zero_le _) hk)
  | k + 1, hk => by
    obtain ⟨c, hc, hb⟩ := cov_of h k (by omega)
    have h1 := hasB_iff.1 hb
    by_cases h2 : ((k + 1 : Nat) : Int) < c.to + clen c
    · exact ⟨c, hc, hasB_iff.2 (by omega)⟩
    · obtain ⟨j, hj, e⟩ := List.getElem_of_mem hc
      have h3 : cs[j]? = some c := by rw [← e]; exact List.getElem?_eq_getElem hj
      have h4 := eoff_succ h3
      have h5 : eoff cs (j + 1) = ((k + 1 : Nat) : Int) := by omega
      have h6 := h (j + 1) (by omega) (by omega)
      rw [h5] at h6
      exact fnd_iff.1 h6
/-! reading what another command writes -/
def rds (a b : Cm) : Int := if a.k ≠ 1 then 0 else ((overlap a.fr a.ln b.to (clen b)).getD (0, 0)).2
theorem ovl_len {a b c e : Int} : (0 < ((overlap a b c e).getD (0, 0)).2) ↔ max a c < min (a + b) (c + e) := by
  unfold overlap btw
  split
  · simp only [Option.getD_none]; omega
  · simp only [Option.getD_some]; omega
theorem ovl_dj {a b c e : Int} (h : ¬ 0 < ((overlap a b c e).getD (0, 0)).2) (h1 : 0 < b) (h2 : 0 < e) : a + b ≤ c ∨ c + e ≤ a := by
  rw [ovl_len] at h
  omega
theorem ovl_ndj {a b c e : Int} (h : 0 < ((overlap a b c e).getD (0, 0)).2) : ¬ (a + b ≤ c ∨ c + e ≤ a) := by
  rw [ovl_len] at h
  omega
/-- no command reads what one before it writes -/
def Safe (cs : List Cm) : Prop := ∀ (i j : Nat) ci cj, j < i → cs[i]? = some ci → cs[j]? = some cj → ¬ 0 < rds ci cj
theorem rds_chunk {c d x : Cm} {s : Int} (hc : ccheck c = 0) (hd : ccheck d = 0) (h : ¬ 0 < rds c d) (hx : x ∈ chunks c s) : ¬ 0 < rds x d := by
  unfold chunks at hx
  split at hx
  · cases hx
  obtain ⟨k, hk, rfl⟩ := List.mem_map.1 hx
  have hkk := List.mem_range.1 hk
  have hk2 : (0 : Int) ≤ (k : Int) ∧ (k : Int) < chCount c s := by omega
  have h1 := chAt_ok hc hk2
  have h2 := chAt_check hc hk2
  unfold rds at h ⊢
  rw [h2.2.2.2]
  by_cases hk1 : c.k = 1
  · have hkc := ccheck_ok hc
    have hkd := ccheck_ok hd
    rw [chAt_eq hc hk2, if_pos hk1]
    simp only [hk1, ne_eq, not_true, if_false] at h ⊢
    rw [ovl_len] at h ⊢
    omega
  · simp [hk1]
/-! the bytes that a delta makes -/
def cbyte (f : List UInt8) (c : Cm) (i : Nat) : Option UInt8 := if c.k = 1 then f[(c.fr + i - c.to).toNat]? else c.bs[((i : Int) - c.to).toNat]?
def apB (f : List UInt8) (cs : List Cm) (i : Nat) : UInt8 := ((cs[(fnd cs i).toNat]?).bind fun c => cbyte f c i).getD 0
def apl (f : List UInt8) (cs : List Cm) (n : Nat) : List UInt8 := (List.range n).map (apB f cs)
theorem apl_next (f : List UInt8) (cs : List Cm) (n : Nat) : apl f cs (n + 1) = apl f cs n ++ [apB f cs n] := by
  unfold apl
  rw [List.range_succ, List.map_append]; rfl
def extd (f : List UInt8) (n : Int) : List UInt8 := f ++ List.replicate (n - f.length).toNat 0
theorem extd_length (f : List UInt8) (n : Int) : ((extd f n).length : Int) = max (f.length : Int) n := by
  unfold extd
  rw [List.length_append, List.length_replicate]; omega
theorem extd_get {f : List UInt8} {n : Int} {i : Nat} (h : i < f.length) : (extd f n)[i]? = f[i]? := by
  unfold extd
  rw [List.getElem?_append_left h]
theorem cbyte_some {o n : Int} {f : List UInt8} {c : Cm} {i : Nat} (ho : o = f.length) (h : single o n c = 0) (hb : hasB c i = true) : ∃ b, cbyte f c i = some b := by
  obtain ⟨h1, h2, h3⟩ := single_ok h
  have hk := ccheck_ok h1
  have h4 := hasB_iff.1 hb
  unfold cbyte
  split
  · rename_i h5
    have := h2 h5
    exact ⟨_, List.getElem?_eq_getElem (by omega)⟩
  · exact ⟨_, List.getElem?_eq_getElem (by omega)⟩
theorem apB_of {f : List UInt8} {cs : List Cm} {i j : Nat} {c : Cm} {b : UInt8} (h1 : fnd cs i = j) (h2 : cs[j]? = some c) (h3 : cbyte f c i = some b) : apB f cs i = b := by
  unfold apB
  rw [h1, Int.toNat_natCast, h2]
  simp [h3]
/-- the file after the first k commands -/
def Inv (f g0 : List UInt8) (cs : List Cm) (k : Nat) (G : List UInt8) : Prop := G.length = g0.length ∧ ∀ i : Nat,
  (∀ (j : Nat) c, j < k → cs[j]? = some c → hasB c i = true → G[i]? = cbyte f c i) ∧ ((∀ (j : Nat) c, j < k → cs[j]? = some c → hasB c i = false) → G[i]? = g0[i]?)
theorem fits_of {o n : Int} {f : List UInt8} {c : Cm} (ho : o = f.length) (h : single o n c = 0) : cfits (extd f n).length c = true := by
  obtain ⟨h1, h2, h3⟩ := single_ok h
  have hk := ccheck_ok h1
  have hl := extd_length f n
  unfold cfits
  simp only [Bool.and_eq_true, Bool.or_eq_true, decide_eq_true_eq]
  refine ⟨by omega, ?_⟩
  by_cases h5 : c.k = 1
  · have := h2 h5; right; omega
  · left; exact h5
theorem inv_step {o n : Int} {f G : List UInt8} {cs : List Cm} {k : Nat} {c : Cm} (ho : o = f.length) (hv : VD o n cs) (hs : Safe cs) (hk : cs[k]? = some c) (h : Inv f (extd f n) cs k G) : Inv f (extd f n) cs (k + 1) (ex1 G c) := by
  have hmem := List.mem_of_getElem? hk
  have h1 := hv.one c hmem
  obtain ⟨hcc, h2, h3⟩ := single_ok h1
  have hck := ccheck_ok hcc
  have hft := fits_of ho h1
  rw [← h.1] at hft
  have hwl := wrt_length hcc hft
  have hl := extd_length f n
  have hGl := h.1
  refine ⟨by rw [ex1_length hcc hft, h.1], fun i => ?_⟩
  have hput := put_get (f := G) (d := wrt G c) (o := c.to.toNat) (by omega) i
  have hex : (ex1 G c)[i]? = if c.to.toNat ≤ i ∧ i < c.to.toNat + (wrt G c).length then (wrt G c)[i - c.to.toNat]? else G[i]? := hput
  have hsrc : hasB c i = true → (ex1 G c)[i]? = cbyte f c i := fun hb => by
    have hb1 := hasB_iff.1 hb
    rw [hex, if_pos (by omega)]
    unfold wrt cbyte
    by_cases hk1 : c.k = 1
    · rw [if_pos hk1, if_pos hk1]
      have h4 := h2 hk1
      rw [List.getElem?_take, if_pos (by omega), List.getElem?_drop]
      have e : c.fr.toNat + (i - c.to.toNat) = (c.fr + i - c.to).toNat := by omega
      rw [e, (h.2 _).2 ?_, extd_get (by omega)]
      intro j d hj hd
      cases hbd : hasB d ((c.fr + i - c.to).toNat : Nat) with
      | false => rfl
      | true =>
        exfalso
        have h5 := hasB_iff.1 hbd
        have h6 := hs k j c d hj hk hd
        unfold rds at h6
        simp only [hk1, ne_eq, not_true, if_false] at h6
        rw [ovl_len] at h6
        omega
    · rw [if_neg hk1, if_neg hk1]
      congr 1; omega
  have hno : hasB c i = false → (ex1 G c)[i]? = G[i]? := fun hb => by
    rw [hex, if_neg]
    intro hh
    have : hasB c i = true := hasB_iff.2 (by omega)
    rw [this] at hb
    cases hb
  refine ⟨fun j d hj hd hb => ?_, fun hn => ?_⟩
  · rcases Nat.lt_or_ge j k with hjk | hjk
    · cases hb2 : hasB c i with
      | false => rw [hno hb2]; exact (h.2 i).1 j d hjk hd hb
      | true =>
        exfalso
        have h5 := hv.dis k j c d hjk hk hd
        have h6 := hasB_iff.1 hb
        have h7 := hasB_iff.1 hb2
        unfold dj at h5
        omega
    · obtain rfl : j = k := by omega
      rw [hk] at hd
      cases hd
      exact hsrc hb
  · rw [hno (hn k c (by omega) hk)]
    exact (h.2 i).2 fun j d hj hd => hn j d (by omega) hd
theorem inv_all {o n : Int} {f : List UInt8} {cs : List Cm} (ho : o = f.length) (hv : VD o n cs) (hs : Safe cs) : ∀ k : Nat, k ≤ cs.length → Inv f (extd f n) cs k ((cs.take k).foldl ex1 (extd f n))
  | 0, _ => ⟨rfl, fun i => ⟨fun j c hj => absurd hj (Nat.not_lt_zero _), fun _ => rfl⟩⟩
  | k + 1, hk => by
    have hg : cs[k]? = some cs[k] := List.getElem?_eq_getElem (by omega)
    have ih := inv_all ho hv hs k (by omega)
    rw [List.take_add_one, hg, List.foldl_append]
    exact inv_step ho hv hs hg ih
/-- executing the commands of a valid delta in place yields the new file -/
theorem exec_delta {o n : Int} {f : List UInt8} {cs : List Cm} (ho : o = f.length) (hv : VD o n cs) (hs : Safe cs) : exs (extd f n) cs = some (cs.foldl ex1 (extd f n)) ∧ (cs.foldl ex1 (extd f n)).length = (extd f n).length ∧ (cs.foldl ex1 (extd f n)).take n.toNat = apl f cs n.toNat := by
  have hI := inv_all ho hv hs cs.length (Nat.le_refl _)
  rw [List.take_length] at hI
  have hl := extd_length f n
  have hlens := hv.lens
  refine ⟨?_, hI.1, ?_⟩
  · unfold exs
    rw [if_pos]
    rw [List.all_eq_true]
    exact fun c hc => fits_of ho (hv.one c hc)
  · apply List.ext_getElem?
    intro i
    unfold apl
    rw [List.getElem?_take, List.getElem?_map]
    split
    · rename_i hi
      rw [List.getElem?_range hi]
      obtain ⟨j, c, h1, h2, h3⟩ := fnd_some (hv.cov i (by omega) (by omega))
      obtain ⟨b, hb⟩ := cbyte_some ho (hv.one c (List.mem_of_getElem? h2)) h3
      rw [(hI.2 i).1 j c (List.getElem?_eq_some_iff.1 h2).1 h2 h3, hb]
      simp only [Option.map_some]
      rw [apB_of h1 h2 hb]
    · rename_i hi
      rw [List.getElem?_eq_none (by simp; omega)]
      rfl
/-- executing all chunks is executing the commands -/
theorem chAll_exs {s : Int} (hs : 1 ≤ s) : ∀ {cs : List Cm} {f : List UInt8}, (∀ c ∈ cs, ccheck c = 0 ∧ chCount c s ≤ 1048576) → cs.all (cfits f.length) = true → exs f (chAll s cs) = some (cs.foldl ex1 f)
  | [], f, _, _ => rfl
  | c :: r, f, hc, hf => by
    obtain ⟨h1, h2⟩ := hc c (by simp)
    simp only [List.all_cons, Bool.and_eq_true] at hf
    have h3 := chunks_exs (f := f) h1 hs h2
    have h4 : exs f [c] = some (ex1 f c) := by unfold exs; simp [hf.1]
    rw [h4] at h3
    have h5 : (chunks c s).all (cfits f.length) = true := by rw [chunks_all h1 hs h2]; exact hf.1
    have h6 : (chunks c s).foldl ex1 f = ex1 f c := by
      unfold exs at h3
      rw [if_pos h5] at h3
      exact Option.some.inj h3
    have hl := ex1_length h1 hf.1
    have ih := chAll_exs hs (cs := r) (f := ex1 f c) (fun d hd => hc d (by simp [hd])) (by rw [hl]; exact hf.2)
    unfold exs at ih
    rw [hl] at ih
    have h7 : (chAll s r).all (cfits f.length) = true := by
      cases h : (chAll s r).all (cfits f.length) with
      | true => rfl
      | false => rw [h] at ih; cases ih
    rw [if_pos h7] at ih
    have e : chAll s (c :: r) = chunks c s ++ chAll s r := rfl
    unfold exs
    rw [e, List.all_append, h5, h7, List.foldl_append, h6]
    simp only [Bool.and_self, if_true, List.foldl_cons]
    exact ih
theorem chAll_le {s : Int} {M : Nat} (hM : M ≤ 1048576) : ∀ {cs : List Cm}, (∀ c ∈ cs, ccheck c = 0 ∧ chCount c s ≤ M) → (chAll s cs).length ≤ M * cs.length
  | [], _ => by simp [chAll]
  | c :: r, h => by
    obtain ⟨h1, h2⟩ := h c (by simp)
    have h3 := chCount_nonneg (s := s) h1
    have h4 := chunks_count (c := c) (s := s) h3.1 (by omega)
    have ih := chAll_le hM (cs := r) fun d hd => h d (by simp [hd])
    have e : chAll s (c :: r) = chunks c s ++ chAll s r := rfl
    rw [e, List.length_append, List.length_cons, Nat.mul_add]
    omega
/-- executing all chunks of a valid delta's safe commands yields the new file -/
theorem exec_chunks {o n s : Int} {f : List UInt8} {cs : List Cm} (ho : o = f.length) (hv : VD o n cs) (hs : Safe cs) (h1 : 1 ≤ s) (hn : n ≤ 1048576) : ∃ R, exs (extd f n) (chAll s cs) = some R ∧ R.length = (extd f n).length ∧ R.take n.toNat = apl f cs n.toNat := by
  obtain ⟨h2, h3, h4⟩ := exec_delta ho hv hs
  refine ⟨_, chAll_exs h1 (fun c hc => ?_) ?_, h3, h4⟩
  · obtain ⟨h5, h6, h7⟩ := single_ok (hv.one c hc)
    have h8 := chCount_pos h5 h1
    have h9 := ccheck_ok h5
    exact ⟨h5, by omega⟩
  · rw [List.all_eq_true]
    exact fun c hc => fits_of ho (hv.one c hc)
/-- the numbers below n -/
def ids (n : Nat) : List Int := (List.range n).map fun (i : Nat) => (i : Int)
theorem ids_next (n : Nat) : ids (n + 1) = ids n ++ [(n : Int)] := by
  unfold ids
  rw [List.range_succ, List.map_append]; rfl
theorem ids_len (n : Nat) : (ids n).length = n := by simp [ids]
theorem ids_get {n i : Nat} (h : i < n) : (ids n)[i]? = some (i : Int) := by
  unfold ids
  rw [List.getElem?_map, List.getElem?_range h]; rfl
end Go.Pl
