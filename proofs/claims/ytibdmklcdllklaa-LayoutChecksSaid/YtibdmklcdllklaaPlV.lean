/- Plain law of devices with a cache of writes. No condition. -/
import Derived.Test.YtibdmklcdllklaaPlF
import Derived.Test.YtibdmklcdllklaaCxE
namespace Go.Pl
set_option linter.unusedVariables false
set_option linter.unusedSimpArgs false
abbrev Wr := Nat × List UInt8
structure Dv where
  sz : Nat
  cnt : Nat
  dk : List UInt8
  wr : Int
  kp : Int
  sW : Int
  sF : Int
  sC : Int
  sH : Int
  sM : Int
  ca : List Wr
  dn : Bool
def putS (sz : Nat) (f : List UInt8) (c : Wr) : List UInt8 := put f (c.1 * sz) c.2
def keepB (kp : Int) (k : Nat) : Bool := decide (IntKind.u64.wrap (BitVec.ofInt IntKind.u64.bits (kp.fdiv (2 ^ (min ((k : Int).tmod 64).toNat IntKind.u64.bits))) &&& BitVec.ofInt IntKind.u64.bits 1).toNat = 1)
/-- the writes from number k on that a function selects, laid over the bytes -/
def pers (sz : Nat) (keep : Nat → Bool) : Nat → List UInt8 → List Wr → List UInt8
  | _, f, [] => f
  | k, f, c :: r => pers sz keep (k + 1) (bif keep k then putS sz f c else f) r
def contents (D : Dv) : List UInt8 := D.ca.foldl (putS D.sz) D.dk
def okWr (D : Dv) (c : Wr) : Prop := c.1 < D.cnt ∧ c.2.length = D.sz
structure okDv (D : Dv) : Prop where
  sz : 1 ≤ D.sz
  len : D.dk.length = D.cnt * D.sz
  cnt : 1 ≤ D.cnt
  max : D.cnt * D.sz ≤ 1048576
  ca : ∀ c ∈ D.ca, okWr D c
  wr : -1 ≤ D.wr ∧ D.wr ≤ 9223372036854775807
  kp : 0 ≤ D.kp ∧ D.kp ≤ 18446744073709551615
  st : I64 D.sH ∧ I64 D.sM
theorem sec_le {sz cnt i : Nat} (h : i < cnt) : i * sz + sz ≤ cnt * sz := by
  have : (i + 1) * sz ≤ cnt * sz := Nat.mul_le_mul_right _ h
  rw [Nat.add_mul, Nat.one_mul] at this
  exact this
theorem putS_len {sz cnt : Nat} {f : List UInt8} {c : Wr} (hf : f.length = cnt * sz) (h : c.1 < cnt) (hl : c.2.length = sz) : (putS sz f c).length = f.length := by
  unfold putS
  exact put_length (by rw [hf, hl]; exact sec_le h)
theorem pers_len {sz cnt : Nat} {keep : Nat → Bool} : ∀ {l : List Wr} {k : Nat} {f : List UInt8}, f.length = cnt * sz → (∀ c ∈ l, c.1 < cnt ∧ c.2.length = sz) → (pers sz keep k f l).length = f.length
  | [], _, _, _, _ => rfl
  | c :: r, k, f, hf, h => by
    have hc := h c (by simp)
    have hl := putS_len hf hc.1 hc.2
    unfold pers
    cases keep k with
    | false => exact pers_len hf fun d hd => h d (by simp [hd])
    | true => exact (pers_len (hl.trans hf) fun d hd => h d (by simp [hd])).trans hl
theorem pers_app (sz : Nat) (keep : Nat → Bool) : ∀ (a b : List Wr) (k : Nat) (f : List UInt8), pers sz keep k f (a ++ b) = pers sz keep (k + a.length) (pers sz keep k f a) b
  | [], b, k, f => rfl
  | c :: r, b, k, f => by
    simp only [List.cons_append, pers, List.length_cons]
    rw [pers_app sz keep r b (k + 1) _, show k + 1 + r.length = k + (r.length + 1) by omega]
theorem pers_next {sz : Nat} {keep : Nat → Bool} {l : List Wr} {f : List UInt8} {i : Nat} {c : Wr} (h : l[i]? = some c) : pers sz keep 0 f (l.take (i + 1)) = bif keep i then putS sz (pers sz keep 0 f (l.take i)) c else pers sz keep 0 f (l.take i) := by
  have hl := (List.getElem?_eq_some_iff.1 h).1
  rw [List.take_add_one, h, pers_app, List.length_take, Nat.min_eq_left (by omega), Nat.zero_add]
  rfl
theorem pers_all (sz : Nat) : ∀ (l : List Wr) (k : Nat) (f : List UInt8), pers sz (fun _ => true) k f l = l.foldl (putS sz) f
  | [], _, _ => rfl
  | c :: r, k, f => by simp only [pers, cond_true, List.foldl_cons]; exact pers_all sz r (k + 1) _
theorem pers_none (sz : Nat) : ∀ (l : List Wr) (k : Nat) (f : List UInt8), pers sz (fun _ => false) k f l = f
  | [], _, _ => rfl
  | c :: r, k, f => by simp only [pers, cond_false]; exact pers_none sz r (k + 1) _
/-! ### The last write to a sector -/
def lastGo (k : Int) : Nat → Option Int → List Wr → Option Int
  | _, a, [] => a
  | i, a, c :: r => lastGo k (i + 1) (if (c.1 : Int) = k then some (i : Int) else a) r
def lastIx (l : List Wr) (k : Int) : Option Int := lastGo k 0 none l
theorem lastGo_app (k : Int) : ∀ (l m : List Wr) (i : Nat) (a : Option Int), lastGo k i a (l ++ m) = lastGo k (i + l.length) (lastGo k i a l) m
  | [], m, i, a => rfl
  | c :: r, m, i, a => by
    simp only [List.cons_append, lastGo, List.length_cons]
    rw [lastGo_app k r m (i + 1) _, show i + 1 + r.length = i + (r.length + 1) by omega]
theorem lastIx_app (l : List Wr) (c : Wr) (k : Int) : lastIx (l ++ [c]) k = if k = (c.1 : Int) then some (l.length : Int) else lastIx l k := by
  unfold lastIx
  rw [lastGo_app, Nat.zero_add]
  simp only [lastGo]
  by_cases h : k = (c.1 : Int)
  · rw [if_pos h.symm, if_pos h]
  · rw [if_neg (fun e => h e.symm), if_neg h]
theorem sector_put {sz cnt i j : Nat} {f b : List UInt8} (hf : f.length = cnt * sz) (hj : j < cnt) (hi : i < cnt) (hb : b.length = sz) : ((put f (j * sz) b).drop (i * sz)).take sz = if i = j then b else (f.drop (i * sz)).take sz := by
  have h1 := sec_le (sz := sz) hj
  have h2 := sec_le (sz := sz) hi
  apply List.ext_getElem?
  intro n
  rw [piece_get]
  by_cases hn : n < sz
  · rw [if_pos hn, put_get (by rw [hf, hb]; exact h1)]
    by_cases hij : i = j
    · subst hij
      rw [if_pos (by omega), if_pos rfl, show i * sz + n - i * sz = n by omega]
    · rw [if_neg hij, piece_get, if_pos hn, if_neg]
      rintro ⟨h3, h4⟩
      rw [hb] at h4
      rcases Nat.lt_or_gt_of_ne hij with h | h
      · have := sec_le (sz := sz) h; omega
      · have := sec_le (sz := sz) h; omega
  · rw [if_neg hn]
    split
    · rw [List.getElem?_eq_none (by omega)]
    · rw [piece_get, if_neg hn]
theorem fold_len {sz cnt : Nat} : ∀ {l : List Wr} {f : List UInt8}, f.length = cnt * sz → (∀ c ∈ l, c.1 < cnt ∧ c.2.length = sz) → (l.foldl (putS sz) f).length = f.length
  | l, f, hf, h => by rw [← pers_all sz l 0 f]; exact pers_len hf h
/-- what a sector holds: the last write to it, or the persistent bytes -/
theorem sector_last {sz cnt i : Nat} (hi : i < cnt) : ∀ {l : List Wr} {f : List UInt8}, f.length = cnt * sz → (∀ c ∈ l, c.1 < cnt ∧ c.2.length = sz) →
    (∀ k : Int, lastIx l i = some k → ∃ c, 0 ≤ k ∧ l[k.toNat]? = some c ∧ ((l.foldl (putS sz) f).drop (i * sz)).take sz = c.2 ∧ k < l.length) ∧ (lastIx l i = none → ((l.foldl (putS sz) f).drop (i * sz)).take sz = (f.drop (i * sz)).take sz) := by
  intro l f hf
  generalize hm : l.reverse = m
  obtain rfl : l = m.reverse := by rw [← hm, List.reverse_reverse]
  clear hm
  induction m with
  | nil => intro _; exact ⟨fun k h => by simp [lastIx, lastGo] at h, fun _ => rfl⟩
  | cons c m ih =>
    rw [List.reverse_cons]
    generalize m.reverse = l at ih ⊢
    intro h
    have ih := ih fun d hd => h d (by simp [hd])
    have hc := h c (by simp)
    have hl := fold_len (l := l) hf fun d hd => h d (by simp [hd])
    rw [List.foldl_append, lastIx_app]
    simp only [List.foldl_cons, List.foldl_nil]
    have hs := sector_put (b := c.2) (hl.trans hf) hc.1 hi hc.2
    unfold putS at *
    rw [hs]
    by_cases hic : i = c.1
    · rw [if_pos (by omega), if_pos hic]
      refine ⟨fun k hk => ?_, fun hk => by cases hk⟩
      obtain rfl := Option.some.inj hk
      exact ⟨c, by omega, by rw [Int.toNat_natCast, List.getElem?_append_right (Nat.le_refl _), Nat.sub_self]; rfl, rfl, by rw [List.length_append, List.length_singleton]; omega⟩
    · rw [if_neg (by omega), if_neg hic]
      refine ⟨fun k hk => ?_, ih.2⟩
      obtain ⟨d, h1, h2, h3, h4⟩ := ih.1 k hk
      exact ⟨d, h1, by rw [List.getElem?_append_left (by omega)]; exact h2, h3, by rw [List.length_append]; omega⟩
/-! ### Calls -/
def inc (x : Int) : Int := IntKind.i64.wrap (x + 1)
def codeAt (D : Dv) (i : Int) : Int := if D.dn = true then 18 else if i < 0 ∨ (D.cnt : Int) ≤ i then 2 else 0
def rdS (D : Dv) (i : Int) : List UInt8 := ((contents D).drop (i.toNat * D.sz)).take D.sz
def persist (D : Dv) (keep : Nat → Bool) : Dv := { D with dk := pers D.sz keep 0 D.dk D.ca, ca := [] }
def wCode (D : Dv) (i : Int) (b : List UInt8) : Int := if codeAt D i ≠ 0 then codeAt D i else if b.length ≠ D.sz then 2 else if D.wr = 0 then 18 else 0
def wAdd (D : Dv) (i : Int) (b : List UInt8) : Dv := { D with ca := D.ca ++ [(i.toNat, b)], sW := inc D.sW, sH := max D.sH (i + 1), sM := max D.sM (D.ca.length + 1 : Nat) }
def wDv (D : Dv) (i : Int) (b : List UInt8) : Dv :=
  if codeAt D i ≠ 0 ∨ b.length ≠ D.sz then D
  else if D.wr < 0 then wAdd D i b else if 0 < D.wr then { wAdd D i b with wr := D.wr - 1 }
  else { persist (wAdd D i b) (keepB D.kp) with wr := -1, dn := true, sC := inc D.sC }
def fDv (D : Dv) : Dv := if D.dn = true then D else { persist D (fun _ => true) with sF := inc D.sF }
def fCode (D : Dv) : Int := if D.dn = true then 18 else 0
def aDv (D : Dv) (n k : Int) : Dv := { D with wr := max n (-1), kp := k }
def sDv (D : Dv) : Dv := { persist D (fun _ => false) with dn := false, wr := -1 }
theorem i64_inc (x : Int) : I64 (inc x) := by
  unfold inc
  generalize x + 1 = y
  have h : IntKind.i64.wrap y = if y % 18446744073709551616 ≥ 9223372036854775808 then y % 18446744073709551616 - 18446744073709551616 else y % 18446744073709551616 := by simp [IntKind.wrap, IntKind.signed, IntKind.bits]
  rw [h]
  unfold I64
  constructor <;> split <;> omega
theorem ok_persist {D : Dv} (h : okDv D) (keep : Nat → Bool) : okDv (persist D keep) :=
  ⟨h.sz, by show (pers D.sz keep 0 D.dk D.ca).length = _; rw [pers_len h.len h.ca]; exact h.len, h.cnt, h.max, by simp [persist], h.wr, h.kp, h.st⟩
theorem ok_add {D : Dv} {i : Int} {b : List UInt8} (h : okDv D) (hi : codeAt D i = 0) (hb : b.length = D.sz) (hl : D.ca.length ≤ 1000000000) : okDv (wAdd D i b) := by
  have hi' : 0 ≤ i ∧ i < D.cnt := by
    unfold codeAt at hi
    split at hi
    · cases hi
    · split at hi
      · cases hi
      · omega
  have hcz : D.cnt ≤ D.cnt * D.sz := Nat.le_mul_of_pos_right _ h.sz
  have hm := h.max
  have hs := h.st
  refine ⟨h.sz, h.len, h.cnt, h.max, fun c hc => ?_, h.wr, h.kp, ?_⟩
  · rcases List.mem_append.1 hc with hc | hc
    · exact h.ca c hc
    · rw [List.mem_singleton.1 hc]; exact ⟨by show i.toNat < D.cnt; omega, hb⟩
  · simp only [I64] at hs ⊢
    refine ⟨?_, ?_⟩
    · show _ ≤ max D.sH (i + 1) ∧ max D.sH (i + 1) ≤ _; omega
    · show _ ≤ max D.sM (D.ca.length + 1 : Nat) ∧ max D.sM (D.ca.length + 1 : Nat) ≤ _; omega
theorem ok_write {D : Dv} {i : Int} {b : List UInt8} (h : okDv D) (hl : D.ca.length ≤ 1000000000) : okDv (wDv D i b) := by
  unfold wDv
  split
  · exact h
  · rename_i hc
    have ha := ok_add (i := i) (b := b) h (by omega) (by omega) hl
    have hw := h.wr
    split
    · exact ha
    · split
      · exact ⟨ha.sz, ha.len, ha.cnt, ha.max, ha.ca, by show -1 ≤ D.wr - 1 ∧ D.wr - 1 ≤ _; omega, ha.kp, ha.st⟩
      · have hp := ok_persist ha (keepB D.kp)
        exact ⟨hp.sz, hp.len, hp.cnt, hp.max, hp.ca, by simp, hp.kp, hp.st⟩
theorem ok_flush {D : Dv} (h : okDv D) : okDv (fDv D) := by
  unfold fDv
  split
  · exact h
  · have hp := ok_persist h (fun _ => true)
    exact ⟨hp.sz, hp.len, hp.cnt, hp.max, hp.ca, hp.wr, hp.kp, hp.st⟩
theorem ok_arm {D : Dv} {n k : Int} (h : okDv D) (hn : I64 n) (hk : 0 ≤ k ∧ k ≤ 18446744073709551615) : okDv (aDv D n k) := by
  simp only [I64] at hn
  exact ⟨h.sz, h.len, h.cnt, h.max, h.ca, by show -1 ≤ max n (-1) ∧ max n (-1) ≤ _; omega, hk, h.st⟩
theorem ok_restart {D : Dv} (h : okDv D) : okDv (sDv D) := by
  have hp := ok_persist h (fun _ => false)
  exact ⟨hp.sz, hp.len, hp.cnt, hp.max, hp.ca, by simp [sDv], hp.kp, hp.st⟩
/-- a new device -/
def nDv (sz cnt : Nat) (b : List UInt8) : Dv := ⟨sz, cnt, b ++ List.replicate (cnt * sz - b.length) 0, -1, 0, 0, 0, 0, 0, 0, [], false⟩
def right (size sectors n : Int) : Bool := decide (1 ≤ size ∧ 1 ≤ sectors ∧ size * sectors ≤ 1048576 ∧ n ≤ size * sectors)
theorem wDv_stop {D : Dv} {i : Int} {b : List UInt8} (h : codeAt D i ≠ 0 ∨ b.length ≠ D.sz) : wDv D i b = D := if_pos h
theorem wDv_off {D : Dv} {i : Int} {b : List UInt8} (h : codeAt D i = 0) (hb : b.length = D.sz) (hw : D.wr < 0) : wDv D i b = wAdd D i b := by
  unfold wDv; rw [if_neg (by omega), if_pos hw]
theorem wDv_on {D : Dv} {i : Int} {b : List UInt8} (h : codeAt D i = 0) (hb : b.length = D.sz) (hw : 0 < D.wr) : wDv D i b = { wAdd D i b with wr := D.wr - 1 } := by
  unfold wDv; rw [if_neg (by omega), if_neg (by omega), if_pos hw]
theorem wDv_cr {D : Dv} {i : Int} {b : List UInt8} (h : codeAt D i = 0) (hb : b.length = D.sz) (hw : D.wr = 0) : wDv D i b = { persist { wAdd D i b with wr := -1 } (keepB D.kp) with dn := true, sC := inc D.sC } := by
  unfold wDv; rw [if_neg (by omega), if_neg (by omega), if_neg (by omega)]; rfl
theorem wCode_cr {D : Dv} {i : Int} {b : List UInt8} (h : codeAt D i = 0) (hb : b.length = D.sz) : wCode D i b = if D.wr = 0 then 18 else 0 := by
  unfold wCode; rw [if_neg (by omega), if_neg (by omega)]
theorem ok_wr {D : Dv} (h : okDv D) {n : Int} (hn : -1 ≤ n ∧ n ≤ 9223372036854775807) : okDv { D with wr := n } := ⟨h.sz, h.len, h.cnt, h.max, h.ca, hn, h.kp, h.st⟩
theorem put_zero {n : Nat} {b : List UInt8} (h : b.length ≤ n) : put (List.replicate n 0) 0 b = b ++ List.replicate (n - b.length) 0 := by
  unfold put
  rw [List.take_zero, List.nil_append, Nat.zero_add, List.drop_replicate]
theorem ok_new {a c : Nat} {b : List UInt8} (h1 : 1 ≤ a) (h2 : 1 ≤ c) (h3 : c * a ≤ 1048576) (h4 : b.length ≤ c * a) : okDv (nDv a c b) :=
  ⟨h1, by show (b ++ List.replicate (c * a - b.length) 0).length = _; rw [List.length_append, List.length_replicate]; show _ = c * a; omega, h2, h3, by simp [nDv], by simp [nDv], by simp [nDv], by simp [nDv, I64]⟩
theorem new_len {a c : Nat} {b : List UInt8} (h4 : b.length ≤ c * a) : (nDv a c b).dk.length = c * a := by
  show (b ++ List.replicate (c * a - b.length) 0).length = _; rw [List.length_append, List.length_replicate]; omega
end Go.Pl
