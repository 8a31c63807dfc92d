/- The frame of a row's proof: what the given form asks, from a contract; arguments opened. No condition. -/
import Derived.Test.YtaehgpeenaomcaaGreatBs2
import Derived.Test.YtaehgpeenaomcaaGreatRows
import Derived.WideKeyArgs
import Derived.Deep.Slices
import Derived.RowKit
import Derived.Lib.SmallJoins
import Derived.SizedLaws
namespace Go.Row
set_option linter.unusedVariables false
set_option linter.unusedSimpArgs false
open Go Go.Cx Go.ChangeShapes Go.WideShapes Go.RowKit

section
variable {H : Type} {enc : TypeId × Value → H} {P : Program} {W W' : World}

def readable (P : Program) (ts : List TypeId) : Bool := ts.all fun t => P.readableRec t && decide (t < P.types.size)

theorem stays (hl : laidOutB P = true) {sp : Nat → Bool} : ∀ {ts : List TypeId} {vs : List Value} {ds : List (DataW H)} {ps : List MemPlace}, readable P ts = true → DataW.TrodAll enc P W 0 (fun _ => true) true ts vs ds ps →
    (∀ p ∈ ps, W.sameAt W' p) → (∀ p ∈ ps, sp p.block = true) → DataW.TrodAll enc P W' 0 sp true ts vs ds ps
  | [], vs, ds, ps, _, h, _, _ => by
    obtain ⟨rfl, rfl, rfl⟩ := trodAll_nil h
    exact rfl
  | t :: ts, vs, ds, ps, hr, h, hs, hb => by
    obtain ⟨v, vs', d, ds', p, q, rfl, rfl, rfl, h1, h2⟩ := trodAll_cons h
    simp only [readable, List.all_cons, Bool.and_eq_true, decide_eq_true_eq] at hr
    exact ⟨p, q, WideElems.Trod_stays hl hr.1.1 hr.1.2 h1 (fun x hx => hs x (List.mem_append_left _ hx)) (fun x hx => hb x (List.mem_append_left _ hx)),
      stays hl (by simpa [readable] using hr.2) h2 (fun x hx => hs x (List.mem_append_right _ hx)) (fun x hx => hb x (List.mem_append_right _ hx)), rfl⟩

theorem sameAt (h : Ext No W W') {p : MemPlace} (hp : p.block < W.heap.size) : W.sameAt W' p := by
  cases p with
  | cell b off => exact cell_same (a := ⟨b, off, none⟩) (h.same b hp id)
  | map b => exact h.same b hp id

theorem kept (h : Ext No W W') (may : MemPlace → Prop) : W.keptBut W' may := by
  refine ⟨h.os, h.output, fun i hi => ?_⟩
  rw [h.same i hi id, Array.getElem?_eq_getElem hi]
  cases W.heap[i] <;> simp

/-- A law that returns true and leaves the memory below as it was: what its row asks behind the call. -/
theorem post_true {f : Func} {s : ChangeSpec} {apart fresh handsOn : Bool} {args : Array Value} {ds gs : List (DataW H)} {before : List MemPlace} {b : TypeId}
    (hl : laidOutB P = true) (hr : readable P f.params.toList = true) (hv : s.vars = []) (hb : f.resultTypes = #[b]) (hu : P.underlying b = some .bool)
    (hW : DataW.Whole enc P f.params.toList s.vars apart W args.toList ds gs before) (hf : s.fn H (ds ++ gs) = { results := [.lit (.bool true)], args := ds, vars := [] }) (hx : Ext No W W') :
    s.post enc P f apart fresh handsOn false W args (.bool true) W' := by
  have hlt := fun p hp => hW.lt p hp
  have hW' := hW
  obtain ⟨p, q, hA, hV, hpq, hz, hn⟩ := hW
  rw [hv] at hV
  obtain ⟨rfl, rfl⟩ := trodVars_none hV
  rw [List.append_nil] at hpq
  subst hpq
  refine ⟨ds, [], before, [], before, [], hW', ?_, ?_, ?_, kept hx _, nofun⟩
  · rw [hf, hb]
    exact trodAll_mk1 (shut_bool hu _)
  · rw [hf]
    exact stays hl hr hA (fun p hp => sameAt hx (hlt p hp)) (fun p hp => by simpa using hlt p hp)
  · rw [hf, hv]
    exact rfl

theorem wf_i64 {n : Int} (h : (Lit.int .i64 n).wf = true) : Pl.I64 n := by
  simpa [Lit.wf, IntKind.min, IntKind.max, IntKind.signed, IntKind.bits] using h

/-- a struct of one-cell fields, its fields' types -/
def oneS (P : Program) (t : TypeId) : Option (List TypeId) := match P.underlying t with
  | some (.struct fs) => if (Go.Deep.oneCellFields P fs && P.cellsOf t == fs.size) = true then some (fs.toList.map (·.type)) else none
  | _ => none
def intT (P : Program) (t : TypeId) : Option IntKind := match P.underlying t with | some (.int k) => some k | _ => none
theorem intT_spec {t : TypeId} {k : IntKind} (h : intT P t = some k) : P.underlying t = some (.int k) := by
  unfold intT at h
  cases hu : P.underlying t with
  | none => simp [hu] at h
  | some d => cases d <;> simp_all

variable {base : Nat} {spare : Nat → Bool} {held : Bool}
theorem trod_oneS {t : TypeId} {ts : List TypeId} (h : oneS P t = some ts) {n : Nat} {cs : List Value} {x : DataW H × List MemPlace} (hx : DataW.trod enc P W base spare held n t cs = some x) :
    cs.length = ts.length ∧ ∃ (ys : List (DataW H × List MemPlace)) (m : Nat), x = (.agg (ys.map (·.1)), ys.flatMap (·.2)) ∧ ys.length = ts.length ∧ ∀ (i : Nat) (ti : TypeId), ts[i]? = some ti → ∃ v y, cs[i]? = some v ∧ ys[i]? = some y ∧ DataW.trod enc P W base spare held m ti [v] = some y := by
  unfold oneS at h
  split at h
  · rename_i fs hu
    split at h
    · rename_i hc
      cases h
      simp only [Bool.and_eq_true, beq_iff_eq] at hc
      obtain ⟨ys, m, rfl, hxx, hl, hyl, hf⟩ := DataW.trod_struct hu hx
      refine ⟨by rw [hl, hc.2]; simp, ys, m, hxx, by rw [hyl]; simp, fun i ti hti => ?_⟩
      rw [List.getElem?_map] at hti
      cases hfi : fs.toList[i]? with
      | none => rw [hfi] at hti; simp at hti
      | some f =>
        rw [hfi] at hti
        cases hti
        have hfi' : fs[i]? = some f := by simpa using hfi
        have hlt : i < fs.size := (Array.getElem?_eq_some_iff.1 hfi').1
        obtain ⟨h1, h2⟩ := Go.Deep.hone_of hc.1 i f hfi'
        have h3 := hf i f hfi'
        rw [h1, h2] at h3
        have hcl : i < cs.length := by rw [hl, hc.2]; exact hlt
        have hyi : i < ys.length := by rw [hyl]; exact hlt
        have h4 : (cs.drop i).take 1 = [cs[i]] := by rw [List.drop_eq_getElem_cons hcl]; rfl
        rw [h4] at h3
        exact ⟨cs[i], ys[i], List.getElem?_eq_getElem hcl, List.getElem?_eq_getElem hyi, by rw [h3]; exact List.getElem?_eq_getElem hyi⟩
    · cases h
  · cases h

theorem trod_i {t : TypeId} {k : IntKind} (h : intT P t = some k) {n : Nat} {v : Value} {y : DataW H × List MemPlace} (hx : DataW.trod enc P W base spare held n t [v] = some y) : ∃ a, v = .int k a ∧ (Lit.int k a).wf = true ∧ y = (.lit (.int k a), []) := by
  obtain ⟨a, h1, h2, h3⟩ := DataW.trod_int (intT_spec h) hx
  simp only [List.cons.injEq, and_true] at h1
  exact ⟨a, h1, h3, h2⟩

theorem agg_of {t : TypeId} {ts : List TypeId} (h : oneS P t = some ts) {r : Reach} {b0 : Nat} {v : Value} (hv : Value.okWide P W r b0 t v) : ∃ cs, v = .agg ⟨cs⟩ := by
  unfold oneS at h
  split at h
  · rename_i fs hu
    obtain ⟨cs, rfl, _⟩ := okWide_struct hu hv
    exact ⟨cs.toList, rfl⟩
  · cases h

/-- an argument of two ints -/
theorem open_e {t a0 a1 : TypeId} {r : Reach} {b0 : Nat} {v : Value} {d : DataW H} {p : List MemPlace} (h : oneS P t = some [a0, a1]) (h0 : intT P a0 = some .i64) (h1 : intT P a1 = some .i64) (hv : Value.okWide P W r b0 t v) (hd : DataW.Trod enc P W base spare held t v d p) :
    ∃ a b, v = .agg #[.int .i64 a, .int .i64 b] ∧ Pl.I64 a ∧ Pl.I64 b := by
  obtain ⟨cs, rfl⟩ := agg_of h hv
  obtain ⟨n, hd⟩ := hd
  obtain ⟨hl, ys, m, _, _, hi⟩ := trod_oneS h hd
  match cs, hl with
  | [c0, c1], _ =>
    obtain ⟨v0, y0, hc0, _, ht0⟩ := hi 0 a0 rfl
    obtain ⟨v1, y1, hc1, _, ht1⟩ := hi 1 a1 rfl
    obtain ⟨x0, rfl, hw0, _⟩ := trod_i h0 ht0
    obtain ⟨x1, rfl, hw1, _⟩ := trod_i h1 ht1
    simp [Value.cells] at hc0 hc1
    subst hc0 hc1
    exact ⟨x0, x1, rfl, wf_i64 hw0, wf_i64 hw1⟩
/-- an argument that is a slice: of elements whose cells 'enc' lays -/
theorem trod_slS {α : Type} (enc' : α → List Value) {es : Nat} {t e : TypeId} {Q : α → Prop} (ht : P.underlying t = some (.slice e)) (hc : P.cellsOf e = es)
    (hel : ∀ (n : Nat) (cs : List Value) (y : DataW H × List MemPlace), cs.length = es → DataW.trod enc P W base spare held n e cs = some y → ∃ x, cs = enc' x ∧ Q x)
    {n : Nat} {v : Value} {y : DataW H × List MemPlace} (hx : DataW.trod enc P W base spare held n t [v] = some y) : ∃ (p : Option Addr) (cap : Nat) (xs : List α), v = .slice p xs.length cap ∧ Rd W p (xs.flatMap enc') ∧ (∀ x, x ∈ xs → Q x) ∧ xs.length ≤ cap ∧ cap ≤ 9223372036854775807 ∧ (spare = (fun _ => true) → 0 < es → cap ≠ 0 → ∀ ad, p = some ad → ad.spot = none) := by
  rcases Go.Deep.open_slice ht hx with ⟨h1, _⟩ | ⟨a, len, cap, m, n', D, Pl, h1, _, hlc, hcm, hm, _, hi⟩
  · simp only [List.cons.injEq, and_true] at h1
    subst h1
    exact ⟨none, 0, [], rfl, rfl, by simp, by simp, by omega, by simp⟩
  · simp only [List.cons.injEq, and_true] at h1
    subst h1
    have hlm : len ≤ m := by rw [hm]; split <;> omega
    have hch : ∀ i, i < len → ∃ x, (∀ j v, (enc' x)[j]? = some v → W.cell? ((a.add (i * es)).add j) = some v) ∧ (enc' x).length = es ∧ Q x := fun i hil => by
      obtain ⟨cs', h2, h3⟩ := hi i (by omega)
      rw [hc] at h2
      obtain ⟨_, h4, h5⟩ := World.cells?_some h2
      obtain ⟨x, rfl, hq⟩ := hel _ _ _ h4 h3
      exact ⟨x, fun j v hj => by rw [h5 j (by rw [← h4]; exact (List.getElem?_eq_some_iff.1 hj).1)]; exact hj, h4, hq⟩
    have hxs : ∀ k, k ≤ len → ∃ xs : List α, xs.length = k ∧ (∀ i x, xs[i]? = some x → (∀ j v, (enc' x)[j]? = some v → W.cell? ((a.add (i * es)).add j) = some v) ∧ (enc' x).length = es ∧ Q x) := fun k => by
      induction k with
      | zero => exact fun _ => ⟨[], rfl, by simp⟩
      | succ k ih =>
        intro hk
        obtain ⟨xs, h2, h3⟩ := ih (by omega)
        obtain ⟨x, hx⟩ := hch k (by omega)
        refine ⟨xs ++ [x], by simp [h2], fun i z hz => ?_⟩
        rw [List.getElem?_append] at hz
        split at hz
        · exact h3 i z hz
        · rename_i hni
          have : i = k := by have := (List.getElem?_eq_some_iff.1 hz).1; simp at this; omega
          subst this
          rw [h2, Nat.sub_self] at hz
          simp at hz
          subst hz
          exact hx
    obtain ⟨xs, h2, h3⟩ := hxs len (Nat.le_refl _)
    have hlen' : ∀ x, x ∈ xs → (enc' x).length = es := fun x hx => by
      obtain ⟨i, hi, e⟩ := List.getElem_of_mem hx
      exact (h3 i x (by rw [← e]; exact List.getElem?_eq_getElem hi)).2.1
    have hk : ∀ (m j : Nat) (v : Value), W.cell? ((a.add m).add j) = some v → W.cell? ⟨a.block, a.off + (m + j), none⟩ = some v := fun m j v h => by
      have hs := World.cell?_spot h
      obtain ⟨b, o, s⟩ := a
      by_cases hm : m = 0 <;> by_cases hj : j = 0 <;> simp_all [Addr.add, Nat.add_assoc]
    have hgo : ∀ (l : List α) (j : Nat) (v : Value), (∀ x, x ∈ l → (enc' x).length = es) → (l.flatMap enc')[j]? = some v → ∃ i x j', l[i]? = some x ∧ (enc' x)[j']? = some v ∧ j = i * es + j' := fun l => by
      induction l with
      | nil => intro j v _ h; simp at h
      | cons z r ih =>
        intro j v hl h
        simp only [List.flatMap_cons] at h
        have hz := hl z (by simp)
        rw [List.getElem?_append] at h
        split at h
        · exact ⟨0, z, j, rfl, h, by simp⟩
        · rename_i hnj
          obtain ⟨i, x, j', h4, h5, h6⟩ := ih _ v (fun x hx => hl x (by simp [hx])) h
          exact ⟨i + 1, x, j', by simpa using h4, h5, by rw [Nat.succ_mul]; omega⟩
    have hcell : ∀ (j : Nat) (v : Value), (xs.flatMap enc')[j]? = some v → W.cell? ⟨a.block, a.off + j, none⟩ = some v := fun j v hj => by
      obtain ⟨i, x, j', h4, h5, h6⟩ := hgo xs j v hlen' hj
      rw [h6]
      exact hk _ _ v ((h3 i x h4).1 j' v h5)
    refine ⟨some a, cap, xs, by rw [h2], ⟨fun hne => ?_, fun j v hj => hcell j v hj⟩, fun x hx => ?_, by rw [h2]; exact hlc, by simpa [maxLen] using hcm, fun hsp hes hc0 ad e => ?_⟩
    rotate_right
    · cases e
      have hmc : m = cap := by rw [hm, hsp]; rfl
      obtain ⟨cs', h6, _⟩ := hi 0 (by omega)
      rw [hc, Nat.zero_mul] at h6
      obtain ⟨_, h7, h8⟩ := World.cells?_some h6
      have h9 := h8 0 hes
      rw [List.getElem?_eq_getElem (by omega)] at h9
      have h10 := World.cell?_spot h9
      simpa [Addr.add] using h10
    · cases hcs : xs.flatMap enc' with
      | nil => exact absurd hcs hne
      | cons v r =>
        obtain ⟨i, x, j', h4, h5, _⟩ := hgo xs 0 v hlen' (by rw [hcs]; rfl)
        have hes : 0 < es := by
          have := hlen' x (List.mem_of_getElem? h4)
          have := (List.getElem?_eq_some_iff.1 h5).1
          omega
        obtain ⟨x0, h6⟩ : ∃ x0, xs[0]? = some x0 := ⟨_, List.getElem?_eq_getElem (by have := (List.getElem?_eq_some_iff.1 h4).1; omega)⟩
        obtain ⟨v0, h7⟩ : ∃ v0, (enc' x0)[0]? = some v0 := ⟨_, List.getElem?_eq_getElem (by rw [hlen' x0 (List.mem_of_getElem? h6)]; exact hes)⟩
        have h8 := (h3 0 x0 h6).1 0 v0 h7
        simpa [Addr.add] using World.cell?_spot h8
    · obtain ⟨i, hi, e⟩ := List.getElem_of_mem hx
      exact (h3 i x (by rw [← e]; exact List.getElem?_eq_getElem hi)).2.2
theorem trod_sl {α : Type} (enc' : α → List Value) {es : Nat} {t e : TypeId} {Q : α → Prop} (ht : P.underlying t = some (.slice e)) (hc : P.cellsOf e = es)
    (hel : ∀ (n : Nat) (cs : List Value) (y : DataW H × List MemPlace), cs.length = es → DataW.trod enc P W base spare held n e cs = some y → ∃ x, cs = enc' x ∧ Q x)
    {n : Nat} {v : Value} {y : DataW H × List MemPlace} (hx : DataW.trod enc P W base spare held n t [v] = some y) : ∃ (p : Option Addr) (cap : Nat) (xs : List α), v = .slice p xs.length cap ∧ Rd W p (xs.flatMap enc') ∧ (∀ x, x ∈ xs → Q x) ∧ xs.length ≤ cap ∧ cap ≤ 9223372036854775807 := by
  obtain ⟨p, cap, xs, h1, h2, h3, h4, h5, _⟩ := trod_slS enc' ht hc hel hx
  exact ⟨p, cap, xs, h1, h2, h3, h4, h5⟩
theorem open_i {t : TypeId} {k : IntKind} {r : Reach} {b0 : Nat} {v : Value} {d : DataW H} {p : List MemPlace} (h : intT P t = some k) (hv : Value.okWide P W r b0 t v) (hd : DataW.Trod enc P W base spare held t v d p) : ∃ a, v = .int k a ∧ (Lit.int k a).wf = true := by
  obtain ⟨n, h1, _, _, h4⟩ := ChangeShapes.open_int (intT_spec h) hv hd
  exact ⟨n, h1, h4⟩
/-- a slice of structs of two ints -/
def slE (P : Program) (t : TypeId) : Bool := match P.underlying t with
  | some (.slice e) => P.cellsOf e == 2 && (match oneS P e with | some [a0, a1] => intT P a0 == some .i64 && intT P a1 == some .i64 | _ => false)
  | _ => false
theorem sl_trod {t e : TypeId} {r : Reach} {b0 : Nat} {v : Value} {d : DataW H} {p : List MemPlace} (ht : P.underlying t = some (.slice e)) (hv : Value.okWide P W r b0 t v) (hd : DataW.Trod enc P W base spare held t v d p) : ∃ n y, DataW.trod enc P W base spare held n t [v] = some y := by
  obtain ⟨a, len, cap, rfl⟩ := okWide_slice ht hv
  obtain ⟨n, hn⟩ := hd
  exact ⟨n, _, hn⟩
theorem open_es {t : TypeId} {r : Reach} {b0 : Nat} {v : Value} {d : DataW H} {p : List MemPlace} (h : slE P t = true) (hv : Value.okWide P W r b0 t v) (hd : DataW.Trod enc P W base spare held t v d p) :
    ∃ (q : Option Addr) (cap : Nat) (xs : List (Int × Int)), v = .slice q xs.length cap ∧ Rd W q (xs.flatMap encE) ∧ (∀ x, x ∈ xs → Pl.I64 x.1 ∧ Pl.I64 x.2) ∧ xs.length ≤ cap ∧ cap ≤ 9223372036854775807 := by
  unfold slE at h
  split at h
  · rename_i e hu
    simp only [Bool.and_eq_true, beq_iff_eq] at h
    obtain ⟨hc, h⟩ := h
    split at h
    · rename_i a0 a1 ho
      simp only [Bool.and_eq_true, beq_iff_eq] at h
      obtain ⟨n, y, hn⟩ := sl_trod hu hv hd
      refine trod_sl (Q := fun x : Int × Int => Pl.I64 x.1 ∧ Pl.I64 x.2) encE hu hc (fun n cs y hl hx => ?_) hn
      obtain ⟨_, ys, m, _, _, hi⟩ := trod_oneS ho hx
      match cs, hl with
      | [c0, c1], _ =>
        obtain ⟨v0, y0, hc0, _, ht0⟩ := hi 0 a0 rfl
        obtain ⟨v1, y1, hc1, _, ht1⟩ := hi 1 a1 rfl
        obtain ⟨x0, rfl, hw0, _⟩ := trod_i h.1 ht0
        obtain ⟨x1, rfl, hw1, _⟩ := trod_i h.2 ht1
        simp at hc0 hc1
        subst hc0 hc1
        exact ⟨(x0, x1), rfl, wf_i64 hw0, wf_i64 hw1⟩
    · cases h
  · cases h
/-- a struct of ints, any number of them -/
def intsS (P : Program) (t : TypeId) (n : Nat) : Bool := match oneS P t with | some ts => decide (ts.length = n) && ts.all (fun a => intT P a == some .i64) | none => false
theorem open_ints {t : TypeId} {m : Nat} {r : Reach} {b0 : Nat} {v : Value} {d : DataW H} {p : List MemPlace} (h : intsS P t m = true) (hv : Value.okWide P W r b0 t v) (hd : DataW.Trod enc P W base spare held t v d p) :
    ∃ xs : List Int, v = .agg ⟨xs.map (Value.int .i64)⟩ ∧ xs.length = m ∧ ∀ x ∈ xs, Pl.I64 x := by
  unfold intsS at h
  split at h
  · rename_i ts ho
    simp only [Bool.and_eq_true, decide_eq_true_eq] at h
    obtain ⟨cs, rfl⟩ := agg_of ho hv
    obtain ⟨n, hd⟩ := hd
    obtain ⟨hl, ys, m', _, _, hi⟩ := trod_oneS ho hd
    simp only [Value.cells] at hl hi
    have hgo : ∀ (cs : List Value) (ts : List TypeId), cs.length = ts.length → ts.all (fun a => intT P a == some .i64) = true → (∀ (i : Nat) (ti : TypeId), ts[i]? = some ti → ∃ v, cs[i]? = some v ∧ ∃ y, DataW.trod enc P W base spare held m' ti [v] = some y) →
        ∃ xs : List Int, cs = xs.map (Value.int .i64) ∧ xs.length = ts.length ∧ ∀ x ∈ xs, Pl.I64 x := fun cs => by
      induction cs with
      | nil => intro ts hl _ _; exact ⟨[], rfl, hl, by simp⟩
      | cons c r ih =>
        intro ts hl ha hx
        cases ts with
        | nil => simp at hl
        | cons t0 tr =>
          simp only [List.all_cons, Bool.and_eq_true, beq_iff_eq] at ha
          obtain ⟨v, h1, y, h2⟩ := hx 0 t0 rfl
          simp at h1
          subst h1
          obtain ⟨a, rfl, hw, _⟩ := trod_i ha.1 h2
          obtain ⟨xs, rfl, h3, h4⟩ := ih tr (by simpa using hl) ha.2 fun i ti hti => by
            obtain ⟨v, h5, h6⟩ := hx (i + 1) ti (by simpa using hti)
            exact ⟨v, by simpa using h5, h6⟩
          exact ⟨a :: xs, rfl, by simp [h3], by simp only [List.mem_cons]; rintro x (rfl | hx); exact wf_i64 hw; exact h4 x hx⟩
    obtain ⟨xs, rfl, h1, h2⟩ := hgo cs ts hl h.2 fun i ti hti => by
      obtain ⟨v, y, h1, _, h2⟩ := hi i ti hti
      exact ⟨v, by simpa using h1, y, h2⟩
    exact ⟨xs, rfl, by rw [h1, h.1], h2⟩
  · cases h
theorem open_i4 {t : TypeId} {r : Reach} {b0 : Nat} {v : Value} {d : DataW H} {p : List MemPlace} (h : intsS P t 4 = true) (hv : Value.okWide P W r b0 t v) (hd : DataW.Trod enc P W base spare held t v d p) :
    ∃ a b c e : Int, v = .agg #[.int .i64 a, .int .i64 b, .int .i64 c, .int .i64 e] ∧ Pl.I64 a ∧ Pl.I64 b ∧ Pl.I64 c ∧ Pl.I64 e := by
  obtain ⟨xs, rfl, hl, hx⟩ := open_ints h hv hd
  match xs, hl with
  | [a, b, c, e], _ => exact ⟨a, b, c, e, rfl, hx a (by simp), hx b (by simp), hx c (by simp), hx e (by simp)⟩
/-- a slice of ints -/
def slI (P : Program) (t : TypeId) (k : IntKind) : Bool := match P.underlying t with
  | some (.slice e) => P.cellsOf e == 1 && intT P e == some k
  | _ => false
theorem open_is {t : TypeId} {r : Reach} {b0 : Nat} {v : Value} {d : DataW H} {p : List MemPlace} (h : slI P t .i64 = true) (hv : Value.okWide P W r b0 t v) (hd : DataW.Trod enc P W base spare held t v d p) :
    ∃ (q : Option Addr) (cap : Nat) (xs : List Int), v = .slice q xs.length cap ∧ Rd W q (xs.flatMap encI) ∧ (∀ x, x ∈ xs → Pl.I64 x) ∧ xs.length ≤ cap ∧ cap ≤ 9223372036854775807 := by
  unfold slI at h
  split at h
  · rename_i e hu
    simp only [Bool.and_eq_true, beq_iff_eq] at h
    obtain ⟨n, y, hn⟩ := sl_trod hu hv hd
    refine trod_sl (Q := fun x : Int => Pl.I64 x) encI hu h.1 (fun n cs y hl hx => ?_) hn
    match cs, hl with
    | [c], _ =>
      obtain ⟨a, rfl, hw, _⟩ := trod_i h.2 hx
      exact ⟨a, rfl, wf_i64 hw⟩
  · cases h
end
/-! bytes, and what holds them -/
section
variable {H : Type} {enc : TypeId × Value → H} {P : Program} {W W' : World} {base : Nat} {held : Bool}
theorem wf_u8 {n : Int} (h : (Lit.int .u8 n).wf = true) : 0 ≤ n ∧ n ≤ 255 := by
  simpa [Lit.wf, IntKind.min, IntKind.max, IntKind.signed, IntKind.bits] using h
theorem wf_u64 {n : Int} (h : (Lit.int .u64 n).wf = true) : 0 ≤ n ∧ n ≤ 18446744073709551615 := by
  simpa [Lit.wf, IntKind.min, IntKind.max, IntKind.signed, IntKind.bits] using h
theorem trod_sb {t : TypeId} (h : slI P t .u8 = true) {n : Nat} {v : Value} {y : DataW H × List MemPlace} (hx : DataW.trod enc P W base (fun _ => true) held n t [v] = some y) : ∃ s : SB, v = .slice s.p s.bs.length s.cap ∧ s.ok W := by
  unfold slI at h
  split at h
  · rename_i e hu
    simp only [Bool.and_eq_true, beq_iff_eq] at h
    obtain ⟨p, cap, xs, h1, h2, _, h4, h5, h6⟩ := trod_slS (Q := fun _ : UInt8 => True) encB hu h.1 (fun n cs y hl hx => by
      match cs, hl with
      | [c], _ =>
        obtain ⟨a, rfl, hw, _⟩ := trod_i h.2 hx
        have := wf_u8 hw
        refine ⟨UInt8.ofNat a.toNat, ?_, trivial⟩
        have e1 : (UInt8.ofNat a.toNat).toNat = a.toNat := by rw [UInt8.toNat_ofNat']; omega
        simp only [encB, e1]
        congr 2
        omega) hx
    exact ⟨⟨p, cap, xs⟩, h1, h2, h4, h6 rfl (by decide), h5⟩
  · cases h
theorem open_bs {t : TypeId} {r : Reach} {b0 : Nat} {v : Value} {d : DataW H} {p : List MemPlace} (h : slI P t .u8 = true) (hv : Value.okWide P W r b0 t v) (hd : DataW.Trod enc P W base (fun _ => true) held t v d p) : ∃ s : SB, v = .slice s.p s.bs.length s.cap ∧ s.ok W := by
  have h' := h
  unfold slI at h'
  split at h'
  · rename_i e hu
    obtain ⟨n, y, hn⟩ := sl_trod hu hv hd
    exact trod_sb h hn
  · cases h'
/-- a slice of structs -/
theorem open_slS {α : Type} (enc' : α → List Value) {es : Nat} {t e : TypeId} {Q : α → Prop} {r : Reach} {b0 : Nat} {v : Value} {d : DataW H} {p : List MemPlace} (ht : P.underlying t = some (.slice e)) (hc : P.cellsOf e = es)
    (hel : ∀ (n : Nat) (cs : List Value) (y : DataW H × List MemPlace), cs.length = es → DataW.trod enc P W base (fun _ => true) held n e cs = some y → ∃ x, cs = enc' x ∧ Q x) (hes : 0 < es)
    (hv : Value.okWide P W r b0 t v) (hd : DataW.Trod enc P W base (fun _ => true) held t v d p) :
    ∃ (p : Option Addr) (cap : Nat) (xs : List α), v = .slice p xs.length cap ∧ Rd W p (xs.flatMap enc') ∧ (∀ x, x ∈ xs → Q x) ∧ xs.length ≤ cap ∧ cap ≤ 9223372036854775807 ∧ (cap ≠ 0 → ∀ ad, p = some ad → ad.spot = none) := by
  obtain ⟨n, y, hn⟩ := sl_trod ht hv hd
  obtain ⟨p, cap, xs, h1, h2, h3, h4, h5, h6⟩ := trod_slS enc' ht hc hel hn
  exact ⟨p, cap, xs, h1, h2, h3, h4, h5, h6 rfl hes⟩
def slF (P : Program) (t : TypeId) : Bool := match P.underlying t with
  | some (.slice e) => P.cellsOf e == 2 && (match oneS P e with | some [a0, a1] => intT P a0 == some .u64 && intT P a1 == some .i64 | _ => false)
  | _ => false
theorem open_fs {t : TypeId} {r : Reach} {b0 : Nat} {v : Value} {d : DataW H} {p : List MemPlace} (h : slF P t = true) (hv : Value.okWide P W r b0 t v) (hd : DataW.Trod enc P W base (fun _ => true) held t v d p) :
    ∃ (q : Option Addr) (cap : Nat) (xs : List (Int × Int)), v = .slice q xs.length cap ∧ Rd W q (xs.flatMap encF) ∧ (∀ x, x ∈ xs → Pl.okF x) ∧ xs.length ≤ cap ∧ cap ≤ 9223372036854775807 ∧ (cap ≠ 0 → ∀ ad, q = some ad → ad.spot = none) := by
  unfold slF at h
  split at h
  · rename_i e hu
    simp only [Bool.and_eq_true, beq_iff_eq] at h
    obtain ⟨hc, h⟩ := h
    split at h
    · rename_i a0 a1 ho
      simp only [Bool.and_eq_true, beq_iff_eq] at h
      refine open_slS (Q := Pl.okF) encF hu hc (fun n cs y hl hx => ?_) (by decide) hv hd
      obtain ⟨_, ys, m, _, _, hi⟩ := trod_oneS ho hx
      match cs, hl with
      | [c0, c1], _ =>
        obtain ⟨v0, y0, hc0, _, ht0⟩ := hi 0 a0 rfl
        obtain ⟨v1, y1, hc1, _, ht1⟩ := hi 1 a1 rfl
        obtain ⟨x0, rfl, hw0, _⟩ := trod_i h.1 ht0
        obtain ⟨x1, rfl, hw1, _⟩ := trod_i h.2 ht1
        simp at hc0 hc1
        subst hc0 hc1
        exact ⟨(x0, x1), rfl, wf_u64 hw0, wf_i64 hw1⟩
    · cases h
  · cases h
def slO (P : Program) (t : TypeId) : Bool := match P.underlying t with
  | some (.slice e) => P.cellsOf e == 3 && (match oneS P e with | some [a0, a1, a2] => intT P a0 == some .i64 && intT P a1 == some .i64 && slI P a2 .u8 | _ => false)
  | _ => false
theorem open_os {t : TypeId} {r : Reach} {b0 : Nat} {v : Value} {d : DataW H} {p : List MemPlace} (h : slO P t = true) (hv : Value.okWide P W r b0 t v) (hd : DataW.Trod enc P W base (fun _ => true) held t v d p) :
    ∃ (q : Option Addr) (cap : Nat) (xs : List OpV), v = .slice q xs.length cap ∧ Rd W q (xs.flatMap encO) ∧ (∀ x, x ∈ xs → okO W x) ∧ xs.length ≤ cap ∧ cap ≤ 9223372036854775807 ∧ (cap ≠ 0 → ∀ ad, q = some ad → ad.spot = none) := by
  unfold slO at h
  split at h
  · rename_i e hu
    simp only [Bool.and_eq_true, beq_iff_eq] at h
    obtain ⟨hc, h⟩ := h
    split at h
    · rename_i a0 a1 a2 ho
      simp only [Bool.and_eq_true, beq_iff_eq] at h
      refine open_slS (Q := okO W) encO hu hc (fun n cs y hl hx => ?_) (by decide) hv hd
      obtain ⟨_, ys, m, _, _, hi⟩ := trod_oneS ho hx
      match cs, hl with
      | [c0, c1, c2], _ =>
        obtain ⟨v0, y0, hc0, _, ht0⟩ := hi 0 a0 rfl
        obtain ⟨v1, y1, hc1, _, ht1⟩ := hi 1 a1 rfl
        obtain ⟨v2, y2, hc2, _, ht2⟩ := hi 2 a2 rfl
        obtain ⟨x0, rfl, hw0, _⟩ := trod_i h.1.1 ht0
        obtain ⟨x1, rfl, hw1, _⟩ := trod_i h.1.2 ht1
        obtain ⟨s, rfl, hs⟩ := trod_sb h.2 ht2
        simp at hc0 hc1 hc2
        subst hc0 hc1 hc2
        exact ⟨⟨x0, x1, s⟩, rfl, wf_i64 hw0, wf_i64 hw1, hs⟩
    · cases h
  · cases h
def slSB (P : Program) (t : TypeId) : Bool := match P.underlying t with
  | some (.slice e) => P.cellsOf e == 1 && slI P e .u8
  | _ => false
/-- a slice of slices of bytes -/
theorem open_bss {t : TypeId} {r : Reach} {b0 : Nat} {v : Value} {d : DataW H} {p : List MemPlace} (h : slSB P t = true) (hv : Value.okWide P W r b0 t v) (hd : DataW.Trod enc P W base (fun _ => true) held t v d p) :
    ∃ (q : Option Addr) (cap : Nat) (xs : List SB), v = .slice q xs.length cap ∧ Rd W q (xs.flatMap encS) ∧ (∀ x, x ∈ xs → SB.ok W x) ∧ xs.length ≤ cap ∧ cap ≤ 9223372036854775807 ∧ (cap ≠ 0 → ∀ ad, q = some ad → ad.spot = none) := by
  unfold slSB at h
  split at h
  · rename_i e hu
    simp only [Bool.and_eq_true, beq_iff_eq] at h
    refine open_slS (Q := SB.ok W) encS hu h.1 (fun n cs y hl hx => ?_) (by decide) hv hd
    match cs, hl with
    | [c], _ =>
      obtain ⟨s, rfl, hs⟩ := trod_sb h.2 hx
      exact ⟨s, rfl, hs⟩
  · cases h
/-- a command -/
def cmdS (P : Program) (t : TypeId) : Bool := match oneS P t with
  | some [a0, a1, a2, a3, a4] => intT P a0 == some .i64 && intT P a1 == some .i64 && intT P a2 == some .i64 && intT P a3 == some .i64 && slI P a4 .u8
  | _ => false
theorem trod_cmd {t : TypeId} (h : cmdS P t = true) {n : Nat} {cs : List Value} {y : DataW H × List MemPlace} (hx : DataW.trod enc P W base (fun _ => true) held n t cs = some y) : ∃ c : CmdV, cs = encC c ∧ okC W c := by
  unfold cmdS at h
  split at h
  · rename_i a0 a1 a2 a3 a4 ho
    simp only [Bool.and_eq_true, beq_iff_eq] at h
    obtain ⟨hl, ys, m, _, _, hi⟩ := trod_oneS ho hx
    match cs, hl with
    | [c0, c1, c2, c3, c4], _ =>
      obtain ⟨v0, y0, hc0, _, ht0⟩ := hi 0 a0 rfl
      obtain ⟨v1, y1, hc1, _, ht1⟩ := hi 1 a1 rfl
      obtain ⟨v2, y2, hc2, _, ht2⟩ := hi 2 a2 rfl
      obtain ⟨v3, y3, hc3, _, ht3⟩ := hi 3 a3 rfl
      obtain ⟨v4, y4, hc4, _, ht4⟩ := hi 4 a4 rfl
      obtain ⟨x0, rfl, hw0, _⟩ := trod_i h.1.1.1.1 ht0
      obtain ⟨x1, rfl, hw1, _⟩ := trod_i h.1.1.1.2 ht1
      obtain ⟨x2, rfl, hw2, _⟩ := trod_i h.1.1.2 ht2
      obtain ⟨x3, rfl, hw3, _⟩ := trod_i h.1.2 ht3
      obtain ⟨s, rfl, hs⟩ := trod_sb h.2 ht4
      simp at hc0 hc1 hc2 hc3 hc4
      subst hc0 hc1 hc2 hc3 hc4
      exact ⟨⟨x0, x1, x2, x3, s⟩, rfl, wf_i64 hw0, wf_i64 hw1, wf_i64 hw2, wf_i64 hw3, hs⟩
  · cases h
theorem open_cmd {t : TypeId} {r : Reach} {b0 : Nat} {v : Value} {d : DataW H} {p : List MemPlace} (h : cmdS P t = true) (hv : Value.okWide P W r b0 t v) (hd : DataW.Trod enc P W base (fun _ => true) held t v d p) : ∃ c : CmdV, v = .agg ⟨encC c⟩ ∧ okC W c := by
  have h' := h
  unfold cmdS at h'
  split at h'
  · rename_i a0 a1 a2 a3 a4 ho
    obtain ⟨cs, rfl⟩ := agg_of ho hv
    obtain ⟨n, hd⟩ := hd
    obtain ⟨c, hc, hk⟩ := trod_cmd h hd
    simp only [Value.cells] at hc
    subst hc
    exact ⟨c, rfl, hk⟩
  · cases h'
def slC (P : Program) (t : TypeId) : Bool := match P.underlying t with
  | some (.slice e) => P.cellsOf e == 5 && cmdS P e
  | _ => false
theorem open_cmds {t : TypeId} {r : Reach} {b0 : Nat} {v : Value} {d : DataW H} {p : List MemPlace} (h : slC P t = true) (hv : Value.okWide P W r b0 t v) (hd : DataW.Trod enc P W base (fun _ => true) held t v d p) :
    ∃ (q : Option Addr) (cap : Nat) (xs : List CmdV), v = .slice q xs.length cap ∧ Rd W q (xs.flatMap encC) ∧ (∀ x, x ∈ xs → okC W x) ∧ xs.length ≤ cap ∧ cap ≤ 9223372036854775807 ∧ (cap ≠ 0 → ∀ ad, q = some ad → ad.spot = none) := by
  unfold slC at h
  split at h
  · rename_i e hu
    simp only [Bool.and_eq_true, beq_iff_eq] at h
    exact open_slS (Q := okC W) encC hu h.1 (fun n cs y hl hx => trod_cmd h.2 hx) (by decide) hv hd
  · cases h
/-- an array of bytes -/
def arrB (P : Program) (t : TypeId) (m : Nat) : Bool := match P.underlying t with
  | some (.array k e) => decide (k = m) && P.cellsOf e == 1 && P.cellsOf t == m && intT P e == some .u8
  | _ => false
theorem trod_u8 {e : TypeId} (h : intT P e = some .u8) {n : Nat} {c : Value} {y : DataW H × List MemPlace} (hx : DataW.trod enc P W base (fun _ => true) held n e [c] = some y) : ∃ b : UInt8, c = .int .u8 b.toNat := by
  obtain ⟨a, rfl, hw, _⟩ := trod_i h hx
  have := wf_u8 hw
  refine ⟨UInt8.ofNat a.toNat, ?_⟩
  have e1 : (UInt8.ofNat a.toNat).toNat = a.toNat := by rw [UInt8.toNat_ofNat']; omega
  rw [e1]
  congr 1
  omega
theorem trod_ab {t : TypeId} {m : Nat} (h : arrB P t m = true) {n : Nat} {cs : List Value} {y : DataW H × List MemPlace} (hx : DataW.trod enc P W base (fun _ => true) held n t cs = some y) : ∃ bs : List UInt8, cs = bs.flatMap encB ∧ bs.length = m := by
  unfold arrB at h
  split at h
  · rename_i k e hu
    simp only [Bool.and_eq_true, beq_iff_eq, decide_eq_true_eq] at h
    obtain ⟨⟨⟨rfl, h1⟩, h2⟩, h3⟩ := h
    obtain ⟨xs, f, _, _, hl, hxl, hi⟩ := DataW.trod_array hu hx
    rw [h2] at hl
    have hc : ∀ (ds : List Value), (∀ (i : Nat) (c : Value), ds[i]? = some c → ∃ b : UInt8, c = .int .u8 b.toNat) → ∃ bs : List UInt8, ds = bs.flatMap encB ∧ bs.length = ds.length := fun ds => by
      induction ds with
      | nil => intro _; exact ⟨[], rfl, rfl⟩
      | cons d r ih =>
        intro hd
        obtain ⟨b, rfl⟩ := hd 0 d rfl
        obtain ⟨bs, h4, h5⟩ := ih fun i c hc => hd (i + 1) c (by simpa using hc)
        exact ⟨b :: bs, by rw [List.flatMap_cons, ← h4]; rfl, by simp [h5]⟩
    obtain ⟨bs, h4, h5⟩ := hc cs fun i c hci => by
      have hlt : i < cs.length := (List.getElem?_eq_some_iff.1 hci).1
      have h6 := hi i (by omega)
      rw [h1, Nat.mul_one, List.drop_eq_getElem_cons hlt, List.getElem?_eq_getElem (by omega)] at h6
      have h7 : cs[i] = c := by rw [List.getElem?_eq_getElem hlt] at hci; exact Option.some.inj hci
      rw [h7] at h6
      exact trod_u8 h3 h6
    exact ⟨bs, h4, by omega⟩
  · cases h
theorem open_ab {t : TypeId} {m : Nat} {r : Reach} {b0 : Nat} {v : Value} {d : DataW H} {p : List MemPlace} (h : arrB P t m = true) (hv : Value.okWide P W r b0 t v) (hd : DataW.Trod enc P W base (fun _ => true) held t v d p) : ∃ bs : List UInt8, v = .agg ⟨bs.flatMap encB⟩ ∧ bs.length = m := by
  have h' := h
  unfold arrB at h'
  split at h'
  · rename_i k e hu
    have hag : ∃ cs, v = .agg cs := by
      unfold Value.okWide at hv
      rw [hu] at hv
      obtain ⟨cs, rfl, _⟩ := hv
      exact ⟨cs, rfl⟩
    obtain ⟨⟨cs⟩, rfl⟩ := hag
    obtain ⟨n, hd⟩ := hd
    obtain ⟨bs, h1, h2⟩ := trod_ab h hd
    simp only [Value.cells] at h1
    subst h1
    exact ⟨bs, rfl, h2⟩
  · cases h'
/-- an array of ints -/
def arrI (P : Program) (t : TypeId) (m : Nat) : Bool := match P.underlying t with
  | some (.array k e) => decide (k = m) && P.cellsOf e == 1 && P.cellsOf t == m && intT P e == some .i64
  | _ => false
theorem trod_ia {t : TypeId} {m : Nat} (h : arrI P t m = true) {n : Nat} {cs : List Value} {y : DataW H × List MemPlace} (hx : DataW.trod enc P W base (fun _ => true) held n t cs = some y) : ∃ xs : List Int, cs = xs.map (Value.int .i64) ∧ xs.length = m ∧ ∀ x ∈ xs, Pl.I64 x := by
  unfold arrI at h
  split at h
  · rename_i k e hu
    simp only [Bool.and_eq_true, beq_iff_eq, decide_eq_true_eq] at h
    obtain ⟨⟨⟨rfl, h1⟩, h2⟩, h3⟩ := h
    obtain ⟨xs, f, _, _, hl, hxl, hi⟩ := DataW.trod_array hu hx
    rw [h2] at hl
    have hc : ∀ (ds : List Value), (∀ (i : Nat) (c : Value), ds[i]? = some c → ∃ a : Int, c = .int .i64 a ∧ Pl.I64 a) → ∃ bs : List Int, ds = bs.map (Value.int .i64) ∧ bs.length = ds.length ∧ ∀ x ∈ bs, Pl.I64 x := fun ds => by
      induction ds with
      | nil => intro _; exact ⟨[], rfl, rfl, by simp⟩
      | cons d r ih =>
        intro hd
        obtain ⟨b, rfl, hb⟩ := hd 0 d rfl
        obtain ⟨bs, h4, h5, h6⟩ := ih fun i c hc => hd (i + 1) c (by simpa using hc)
        exact ⟨b :: bs, by rw [List.map_cons, ← h4], by simp [h5], by simpa using ⟨hb, h6⟩⟩
    obtain ⟨bs, h4, h5, h6⟩ := hc cs fun i c hci => by
      have hlt : i < cs.length := (List.getElem?_eq_some_iff.1 hci).1
      have h6 := hi i (by omega)
      rw [h1, Nat.mul_one, List.drop_eq_getElem_cons hlt, List.getElem?_eq_getElem (by omega)] at h6
      have h7 : cs[i] = c := by rw [List.getElem?_eq_getElem hlt] at hci; exact Option.some.inj hci
      rw [h7] at h6
      obtain ⟨a, rfl, hw, _⟩ := trod_i h3 h6
      exact ⟨a, rfl, wf_i64 hw⟩
    exact ⟨bs, h4, by omega, h6⟩
  · cases h
theorem open_ia {t : TypeId} {m : Nat} {r : Reach} {b0 : Nat} {v : Value} {d : DataW H} {p : List MemPlace} (h : arrI P t m = true) (hv : Value.okWide P W r b0 t v) (hd : DataW.Trod enc P W base (fun _ => true) held t v d p) : ∃ xs : List Int, v = .agg ⟨xs.map (Value.int .i64)⟩ ∧ xs.length = m ∧ ∀ x ∈ xs, Pl.I64 x := by
  have h' := h
  unfold arrI at h'
  split at h'
  · rename_i k e hu
    have hag : ∃ cs, v = .agg cs := by
      unfold Value.okWide at hv
      rw [hu] at hv
      obtain ⟨cs, rfl, _⟩ := hv
      exact ⟨cs, rfl⟩
    obtain ⟨⟨cs⟩, rfl⟩ := hag
    obtain ⟨n, hd⟩ := hd
    obtain ⟨xs, h1, h2, h3⟩ := trod_ia h hd
    simp only [Value.cells] at h1
    subst h1
    exact ⟨xs, rfl, h2, h3⟩
  · cases h'
theorem open_ia3 {t : TypeId} {r : Reach} {b0 : Nat} {v : Value} {d : DataW H} {p : List MemPlace} (h : arrI P t 3 = true) (hv : Value.okWide P W r b0 t v) (hd : DataW.Trod enc P W base (fun _ => true) held t v d p) : ∃ a b c : Int, v = .agg ⟨[.int .i64 a, .int .i64 b, .int .i64 c]⟩ ∧ Pl.I64 a ∧ Pl.I64 b ∧ Pl.I64 c := by
  have h' := h
  unfold arrI at h'
  split at h'
  · rename_i k e hu
    have hag : ∃ cs, v = .agg cs := by
      unfold Value.okWide at hv
      rw [hu] at hv
      obtain ⟨cs, rfl, _⟩ := hv
      exact ⟨cs, rfl⟩
    obtain ⟨⟨cs⟩, rfl⟩ := hag
    obtain ⟨n, hd⟩ := hd
    obtain ⟨xs, h1, h2, h3⟩ := trod_ia h hd
    simp only [Value.cells] at h1
    subst h1
    match xs, h2, h3 with
    | [a, b, c], _, h3 => exact ⟨a, b, c, rfl, h3 a (by simp), h3 b (by simp), h3 c (by simp)⟩
  · cases h'
end
/-! how much memory a slice takes up at most -/
section
variable {H : Type} {enc : TypeId × Value → H} {P : Program} {W W' : World} {base : Nat} {held : Bool}
theorem sl_size {t e : TypeId} (ht : P.underlying t = some (.slice e)) {n : Nat} {p : Option Addr} {len cap : Nat} {y : DataW H × List MemPlace} (hx : DataW.trod enc P W base (fun _ => true) held n t [.slice p len cap] = some y) (hw : ∀ k ∈ y.1.weights P t, k ≤ reachBytes) : cap * P.bytesOf e ≤ reachBytes := by
  rcases Go.Deep.open_slice ht hx with ⟨h1, _⟩ | ⟨a, len', cap', m, n', D, Pl, h1, _, hlc, _, hm, hy, _⟩
  · simp only [List.cons.injEq, and_true, Value.slice.injEq] at h1
    obtain ⟨_, _, rfl⟩ := h1
    simp
  · simp only [List.cons.injEq, and_true, Value.slice.injEq] at h1
    obtain ⟨_, rfl, rfl⟩ := h1
    simp only [if_true] at hm
    rw [hy, hm] at hw
    have := hw ((len + (cap - len)) * P.bytesOf e) (by simp [DataW.weights, ht])
    rwa [Nat.add_sub_cancel' hlc] at this
theorem each_mem {ts : List TypeId} {ds : List (DataW H)} {j : Nat} {t : TypeId} {d : DataW H} (h : (DataW.weightsEach P ts ds).all (· ≤ reachBytes) = true) (ht : ts[j]? = some t) (hd : ds[j]? = some d) : ∀ n ∈ d.weights P t, n ≤ reachBytes := fun n hn => by
  simpa using List.all_eq_true.1 h n (DataW.weights_mem_each ht hd n hn)
def cmdW (P : Program) (t : TypeId) : Bool := cmdS P t && (match P.underlying t with | some (.struct fs) => (match fs.toList.map (·.type) with | [_, _, _, _, a4] => (match P.underlying a4 with | some (.slice e) => P.bytesOf e == 1 | _ => false) | _ => false) | _ => false)
theorem open_cmdW {t : TypeId} {r : Reach} {b0 : Nat} {v : Value} {d : DataW H} {p : List MemPlace} (h : cmdW P t = true) (hw : ∀ n ∈ d.weights P t, n ≤ reachBytes) (hv : Value.okWide P W r b0 t v) (hd : DataW.Trod enc P W base (fun _ => true) held t v d p) : ∃ c : CmdV, v = .agg ⟨encC c⟩ ∧ okC W c ∧ c.d.cap ≤ 140737488355328 := by
  unfold cmdW at h
  simp only [Bool.and_eq_true] at h
  obtain ⟨h1, h2⟩ := h
  obtain ⟨c, rfl, hk⟩ := open_cmd h1 hv hd
  refine ⟨c, rfl, hk, ?_⟩
  unfold cmdS at h1
  split at h1
  · rename_i a0 a1 a2 a3 a4 ho
    obtain ⟨n, hd⟩ := hd
    have ho' := ho
    unfold oneS at ho'
    split at ho'
    · rename_i fs hu
      split at ho'
      · have hts : fs.toList.map (·.type) = [a0, a1, a2, a3, a4] := Option.some.inj ho'
        simp only [hu, hts] at h2
        split at h2
        · rename_i e he
          obtain ⟨hl, ys, m, hx, hyl, hi⟩ := trod_oneS ho hd
          obtain ⟨v4, y4, hc4, hy4, ht4⟩ := hi 4 a4 rfl
          simp [Value.cells, encC] at hc4
          subst hc4
          have hdd : d = .agg (ys.map (·.1)) := congrArg Prod.fst hx
          have h3 := sl_size he ht4 fun k hk4 => hw k (by
            rw [hdd]
            simp only [DataW.weights, hu, hts]
            exact DataW.weights_mem_each (j := 4) (t := a4) (d := y4.1) rfl (by rw [List.getElem?_map, hy4]; rfl) k hk4)
          simp only [beq_iff_eq] at h2
          rw [h2, Nat.mul_one] at h3
          have : reachBytes = 140737488351232 := rfl
          omega
        · cases h2
      · cases ho'
    · cases ho'
  · cases h1
/-! ### Structs of numbers and bytes -/
inductive FK where
  | n (k : IntKind)
  | b
def fkB (P : Program) : List TypeId → List FK → Bool
  | [], [] => true
  | t :: ts, .n k :: ks => intT P t == some k && fkB P ts ks
  | t :: ts, .b :: ks => slI P t .u8 && fkB P ts ks
  | _, _ => false
def fkS (P : Program) (t : TypeId) (ks : List FK) : Bool := match oneS P t with
  | some ts => fkB P ts ks
  | none => false
def FAll (W : World) : List FK → List Value → Prop
  | [], [] => True
  | .n k :: ks, v :: vs => (∃ x, v = .int k x ∧ (Lit.int k x).wf = true) ∧ FAll W ks vs
  | .b :: ks, v :: vs => (∃ s : SB, v = .slice s.p s.bs.length s.cap ∧ s.ok W) ∧ FAll W ks vs
  | _, _ => False
theorem fall_of {m : Nat} : ∀ {ts : List TypeId} {ks : List FK} {cs : List Value}, fkB P ts ks = true → cs.length = ts.length → (∀ (i : Nat) (ti : TypeId), ts[i]? = some ti → ∃ v y, cs[i]? = some v ∧ DataW.trod enc P W base (fun _ => true) held m ti [v] = some y) → FAll W ks cs
  | [], [], [], _, _, _ => trivial
  | [], [], _ :: _, _, h, _ => by simp at h
  | [], _ :: _, _, h, _, _ => by simp [fkB] at h
  | _ :: _, [], _, h, _, _ => by simp [fkB] at h
  | _ :: _, _ :: _, [], _, h, _ => by simp at h
  | t :: ts, k :: ks, c :: cs, h, hl, hi => by
    obtain ⟨v, y, hv, hy⟩ := hi 0 t rfl
    simp only [List.getElem?_cons_zero, Option.some.injEq] at hv
    subst hv
    have hr := fun h' => fall_of (ts := ts) (ks := ks) (cs := cs) h' (by simpa using hl) (fun i ti hti => hi (i + 1) ti (by simpa using hti))
    cases k with
    | n k =>
      simp only [fkB, Bool.and_eq_true, beq_iff_eq] at h
      obtain ⟨x, hx, hw, _⟩ := trod_i h.1 hy
      exact ⟨⟨x, hx, hw⟩, hr h.2⟩
    | b =>
      simp only [fkB, Bool.and_eq_true] at h
      exact ⟨trod_sb h.1 hy, hr h.2⟩
theorem fall_len {W : World} : ∀ {ks : List FK} {cs : List Value}, FAll W ks cs → cs.length = ks.length
  | [], [], _ => rfl
  | [], _ :: _, h => h.elim
  | k :: ks, [], h => by cases k <;> exact h.elim
  | k :: ks, c :: cs, h => by cases k <;> exact congrArg (· + 1) (fall_len h.2)
theorem fall_n {W : World} {k : IntKind} {ks : List FK} {c : Value} {cs : List Value} (h : FAll W (.n k :: ks) (c :: cs)) : (∃ x, c = .int k x ∧ (Lit.int k x).wf = true) ∧ FAll W ks cs := h
theorem fall_b {W : World} {ks : List FK} {c : Value} {cs : List Value} (h : FAll W (.b :: ks) (c :: cs)) : (∃ s : SB, c = .slice s.p s.bs.length s.cap ∧ s.ok W) ∧ FAll W ks cs := h
theorem trod_fk {t : TypeId} {ks : List FK} (h : fkS P t ks = true) {n : Nat} {cs : List Value} {y : DataW H × List MemPlace} (hx : DataW.trod enc P W base (fun _ => true) held n t cs = some y) : FAll W ks cs := by
  unfold fkS at h
  split at h
  · rename_i ts ho
    obtain ⟨hl, ys, m, _, _, hi⟩ := trod_oneS ho hx
    exact fall_of h hl fun i ti hti => by
      obtain ⟨v, y, h1, _, h2⟩ := hi i ti hti
      exact ⟨v, y, h1, h2⟩
  · cases h
theorem open_fk {t : TypeId} (ks : List FK) {r : Reach} {b0 : Nat} {v : Value} {d : DataW H} {p : List MemPlace} (h : fkS P t ks = true) (hv : Value.okWide P W r b0 t v) (hd : DataW.Trod enc P W base (fun _ => true) held t v d p) : ∃ cs, v = .agg ⟨cs⟩ ∧ FAll W ks cs := by
  have h' := h
  unfold fkS at h'
  split at h'
  · rename_i ts ho
    obtain ⟨cs, rfl⟩ := agg_of ho hv
    obtain ⟨n, hd⟩ := hd
    exact ⟨cs, rfl, trod_fk h hd⟩
  · cases h'
/-- bytes and two numbers -/
theorem open_bii {t : TypeId} {r : Reach} {b0 : Nat} {v : Value} {d : DataW H} {p : List MemPlace} (h : fkS P t [.b, .n .i64, .n .i64] = true) (hv : Value.okWide P W r b0 t v) (hd : DataW.Trod enc P W base (fun _ => true) held t v d p) :
    ∃ (s : SB) (a b : Int), v = .agg ⟨[.slice s.p s.bs.length s.cap, .int .i64 a, .int .i64 b]⟩ ∧ s.ok W ∧ Pl.I64 a ∧ Pl.I64 b := by
  obtain ⟨cs, rfl, hf⟩ := open_fk _ h hv hd
  have hl := fall_len hf
  match cs, hl with
  | [c0, c1, c2], _ =>
    obtain ⟨⟨s, rfl, hs⟩, hf1⟩ := fall_b hf
    obtain ⟨⟨a, rfl, ha⟩, hf2⟩ := fall_n hf1
    obtain ⟨⟨b, rfl, hb⟩, hf3⟩ := fall_n hf2
    exact ⟨s, a, b, rfl, hs, wf_i64 ha, wf_i64 hb⟩
/-- two numbers and bytes -/
theorem open_iib {t : TypeId} {r : Reach} {b0 : Nat} {v : Value} {d : DataW H} {p : List MemPlace} (h : fkS P t [.n .i64, .n .i64, .b] = true) (hv : Value.okWide P W r b0 t v) (hd : DataW.Trod enc P W base (fun _ => true) held t v d p) :
    ∃ (a b : Int) (s : SB), v = .agg ⟨[.int .i64 a, .int .i64 b, .slice s.p s.bs.length s.cap]⟩ ∧ s.ok W ∧ Pl.I64 a ∧ Pl.I64 b := by
  obtain ⟨cs, rfl, hf⟩ := open_fk _ h hv hd
  have hl := fall_len hf
  match cs, hl with
  | [c0, c1, c2], _ =>
    obtain ⟨⟨a, rfl, ha⟩, hf1⟩ := fall_n hf
    obtain ⟨⟨b, rfl, hb⟩, hf2⟩ := fall_n hf1
    obtain ⟨⟨s, rfl, hs⟩, hf3⟩ := fall_b hf2
    exact ⟨a, b, s, rfl, hs, wf_i64 ha, wf_i64 hb⟩
end
end Go.Row
