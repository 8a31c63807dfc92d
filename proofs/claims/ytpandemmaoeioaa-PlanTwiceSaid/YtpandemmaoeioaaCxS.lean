/- Glue for plans. No condition. -/
import Derived.Test.YtpandemmaoeioaaCxR
import Derived.Test.YtpandemmaoeioaaPlH
namespace Go.Cx
set_option linter.unusedVariables false
set_option linter.unusedSimpArgs false
open Go
/-- the numbers of the first steps, and the end -/
def firstL (s : Int) (cs : List Pl.Cm) : List Int := (List.range (cs.length + 1)).map (Pl.first s cs)
def beforeL (cs : List Pl.Cm) : List Int := (List.range (cs.length + 1)).map (Pl.before cs)
theorem firstL_len (s : Int) (cs : List Pl.Cm) : (firstL s cs).length = cs.length + 1 := by simp [firstL]
theorem beforeL_len (cs : List Pl.Cm) : (beforeL cs).length = cs.length + 1 := by simp [beforeL]
theorem firstL_get {s : Int} {cs : List Pl.Cm} {k : Nat} (h : k ≤ cs.length) : (firstL s cs)[k]? = some (Pl.first s cs k) := by
  unfold firstL
  rw [List.getElem?_map, List.getElem?_range (by omega)]
  rfl
theorem beforeL_get {cs : List Pl.Cm} {k : Nat} (h : k ≤ cs.length) : (beforeL cs)[k]? = some (Pl.before cs k) := by
  unfold beforeL
  rw [List.getElem?_map, List.getElem?_range (by omega)]
  rfl
/-- the cells of the numbers, and of a plan -/
def nmV (s : Int) (pf : Option Addr) (n cf : Nat) (pb : Option Addr) (cb : Nat) : List Value := [.int .i64 s, .slice pf n cf, .slice pb n cb]
def plV (s : Int) (pf : Option Addr) (n cf : Nat) (pb : Option Addr) (cb : Nat) (pl : Option Addr) (m cl : Nat) : List Value := [.int .i64 s, .slice pf n cf, .slice pb n cb, .slice pl m cl]
theorem half64 {i j : Nat} (h : i + j ≤ 9223372036854775807) : ((i : Int) + j).fdiv (2 ^ (min (1 : Int).toNat 64)) = ((i + j) / 2 : Nat) := by
  rw [show (min (1 : Int).toNat 64) = 1 by decide, Int.fdiv_eq_ediv_of_nonneg _ (by decide)]
  omega
theorem first_le (s : Int) : ∀ (cs : List Pl.Cm), Pl.fewC s cs → ∀ k, Pl.first s cs k ≤ Pl.first s cs (k + 1)
  | [], _, k => by cases k <;> simp [Pl.first]
  | c :: r, h, 0 => by
    have := Pl.chCount_nonneg (s := s) (h c (by simp)).1
    cases r <;> simp [Pl.first] <;> omega
  | c :: r, h, k + 1 => by
    have := first_le s r (fun d hd => h d (by simp [hd])) k
    simp only [Pl.first]; omega
theorem first_le' {s : Int} {cs : List Pl.Cm} (h : Pl.fewC s cs) {j k : Nat} (hjk : j ≤ k) : Pl.first s cs j ≤ Pl.first s cs k := by
  induction k with
  | zero => obtain rfl : j = 0 := by omega
            exact Int.le_refl _
  | succ k ih =>
    rcases Nat.lt_or_ge j (k + 1) with hl | hg
    · exact Int.le_trans (ih (by omega)) (first_le s cs h k)
    · obtain rfl : j = k + 1 := by omega
      exact Int.le_refl _
theorem find_mono {s : Int} {cs : List Pl.Cm} (h : Pl.fewC s cs) (i : Int) : ∀ j k, j ≤ k → decide (i < Pl.first s cs (j + 1)) = true → decide (i < Pl.first s cs (k + 1)) = true := fun j k hjk hj => by
  have := first_le' h (j := j + 1) (k := k + 1) (by omega)
  simp only [decide_eq_true_eq] at hj ⊢
  omega
theorem find_post {s : Int} {cs : List Pl.Cm} {i : Int} {r : Nat} (h0 : 0 ≤ i) (h1 : i < Pl.first s cs cs.length) (hr : r ≤ cs.length) (hlo : ∀ j, j < r → decide (i < Pl.first s cs (j + 1)) = false) (hhi : r < cs.length → decide (i < Pl.first s cs (r + 1)) = true) : r < cs.length ∧ Pl.first s cs r ≤ i ∧ i < Pl.first s cs (r + 1) := by
  have e0 : Pl.first s cs 0 = 0 := by unfold Pl.first; rfl
  have hlow : Pl.first s cs r ≤ i := by
    cases r with
    | zero => rw [e0]; exact h0
    | succ r => have := hlo r (by omega); simp only [decide_eq_false_iff_not] at this; omega
  have hlt : r < cs.length := by
    rcases Nat.lt_or_ge r cs.length with h | h
    · exact h
    · obtain rfl : r = cs.length := by omega
      omega
  exact ⟨hlt, hlow, by simpa using hhi hlt⟩
/-- the cells of a step: its number, its command's number, its chunk -/
def encT (t : Int × Int × CmdV) : List Value := [.int .i64 t.1, .int .i64 t.2.1, .int .i64 t.2.2.k, .int .i64 t.2.2.to, .int .i64 t.2.2.fr, .int .i64 t.2.2.ln, .slice t.2.2.d.p t.2.2.d.bs.length t.2.2.d.cap]
theorem encT_len (t : Int × Int × CmdV) : (encT t).length = 7 := rfl
def wsumT (ts : List (Int × Int × CmdV)) : Int := Pl.wsum (ts.map fun t => (0, t.2.2.cm))
theorem wsumT_next {ts : List (Int × Int × CmdV)} {i : Nat} {t : Int × Int × CmdV} (h : ts[i]? = some t) : wsumT (ts.take (i + 1)) = wsumT (ts.take i) + Pl.clen t.2.2.cm := by
  unfold wsumT
  rw [List.take_add_one, h, List.map_append, Pl.wsum_app]
  simp [Pl.wsum]
theorem take_end {α : Type} {ts : List α} {x : Nat} {n : Int} (h1 : x ≤ ts.length) (h2 : (x : Int) ≤ max n 0) (h3 : ¬ ((x : Int) < ts.length) ∨ ¬ ((x : Int) < n)) : ts.take x = ts.take n.toNat := by
  rcases h3 with h | h
  · rw [List.take_of_length_le (by omega), List.take_of_length_le (by omega)]
  · rw [show x = n.toNat by omega]
theorem wsum_next {ts : List (Nat × Pl.Cm)} {i k : Nat} {d : Pl.Cm} (h : ts[i]? = some (k, d)) : Pl.wsum (ts.take (i + 1)) = Pl.wsum (ts.take i) + Pl.clen d := by
  rw [List.take_add_one, h, Pl.wsum_app]
  simp [Pl.wsum]
theorem wsum_first {s : Int} {cs : List Pl.Cm} {k : Nat} {c : Pl.Cm} (hs : 1 ≤ s) (h : Pl.fewC s cs) (hc : cs[k]? = some c) : Pl.wsum ((Pl.steps s 0 cs).take (Pl.first s cs k).toNat) = Pl.before cs k := by
  have h0 := Pl.first_nonneg (s := s) k h
  have h1 := Pl.first_next s hc
  have h2 := Pl.chCount_nonneg (s := s) (h c (List.mem_of_getElem? hc)).1
  have h3 := Pl.wsum_steps hs (b := 0) (i := (Pl.first s cs k).toNat) h hc (by omega) (by omega)
  have e : (((Pl.first s cs k).toNat : Int) - Pl.first s cs k).toNat = 0 := by omega
  rw [h3, e, Pl.chSum_zero (h c (List.mem_of_getElem? hc)).1]
  omega
theorem wsum_end {s i : Int} {cs : List Pl.Cm} (hs : 1 ≤ s) (h : Pl.fewC s cs) (hi : Pl.first s cs cs.length ≤ i) : Pl.wsum ((Pl.steps s 0 cs).take i.toNat) = Pl.before cs cs.length := by
  have hl := Pl.steps_len 0 h
  rw [List.take_of_length_le (by omega), Pl.wsum_all hs h]
section
variable {P : Program} {md : Md} {n : Nat} {D : List Deferred} {S : List (Nat × Value)} {w : World}
variable {ty : TypeId} {pos : String} {af : Array Edge} {g : Option (Nat × Bool)} {dst : Option Tmp}
/-- some of an element's cells, as a value of their own -/
theorem y_elAS {α : Type} {enc : α → List Value} {xs : List α} {t : TypeId} {x : Operand} {b o i es fo m : Nat} {el : α} {vs : List Value} (hx : ev S x = some (.pointer (some ⟨b, o + i * es + fo, none⟩))) (hs : aggS P t = some m) (hR : ∀ u, Near md w u → Rd u (some ⟨b, o, none⟩) (xs.flatMap enc))
    (he : ∀ x, (enc x).length = es) (hi : xs[i]? = some el) (hv : ((enc el).drop fo).take m = vs) (hl : vs.length = m) : ∀ a, Fr a n D S → Yl P md w a ⟨dst, .load t x, ty, pos, af, g⟩ (.agg ⟨vs⟩) :=
  y_loadCA hx hs hl fun u hu j v hj => by
    have hjm : j < m := by rw [← hl]; exact (List.getElem?_eq_some_iff.1 hj).1
    rw [← hv, List.getElem?_take, if_pos hjm, List.getElem?_drop] at hj
    have hlt : fo + j < es := by rw [← he el]; exact (List.getElem?_eq_some_iff.1 hj).1
    have := (hR u hu).2 (i * es + (fo + j)) v (by rw [fm_get he xs i (fo + j) el hi hlt]; exact hj)
    rw [← Nat.add_assoc, ← Nat.add_assoc] at this
    exact this
end
/-- steps, numbered -/
def stT : Nat → List (Nat × Pl.Cm) → List (Int × Int × Pl.Cm)
  | _, [] => []
  | b, x :: r => ((b : Int), (x.1 : Int), x.2) :: stT (b + 1) r
theorem stT_app : ∀ (xs ys : List (Nat × Pl.Cm)) (b : Nat), stT b (xs ++ ys) = stT b xs ++ stT (b + xs.length) ys
  | [], ys, b => rfl
  | x :: r, ys, b => by
    simp only [List.cons_append, stT, stT_app r ys (b + 1), List.length_cons]
    rw [show b + 1 + r.length = b + (r.length + 1) by omega]
theorem stT_len : ∀ (xs : List (Nat × Pl.Cm)) (b : Nat), (stT b xs).length = xs.length
  | [], b => rfl
  | x :: r, b => by simp only [stT, List.length_cons, stT_len r (b + 1)]
theorem stT_get : ∀ (xs : List (Nat × Pl.Cm)) (b i : Nat), (stT b xs)[i]? = xs[i]?.map fun x => (((b + i : Nat) : Int), (x.1 : Int), x.2)
  | [], b, i => by simp [stT]
  | x :: r, b, 0 => by simp [stT]
  | x :: r, b, i + 1 => by simp only [stT, List.getElem?_cons_succ, stT_get r (b + 1) i]; rw [show b + 1 + i = b + (i + 1) by omega]
theorem steps_pre (s : Int) (cs : List Pl.Cm) (k : Nat) : (Pl.steps s 0 (cs.take k)).length ≤ (Pl.steps s 0 cs).length := by
  have e : Pl.steps s 0 cs = Pl.steps s 0 (cs.take k) ++ Pl.steps s (0 + (cs.take k).length) (cs.drop k) := by rw [← Pl.steps_app, List.take_append_drop]
  rw [e, List.length_append]; omega
theorem heldT {B : List (Nat × Blk)} {u8 : Nat} {ts : List (Int × Int × CmdV)} {t : Int × Int × CmdV} (h : ∀ x ∈ ts, Held B u8 x.2.2.d) (ht : Held B u8 t.2.2.d) : ∀ y ∈ ts ++ [t], Held B u8 y.2.2.d := fun y hy => by
  rcases List.mem_append.1 hy with hy | hy
  · exact h y hy
  · rw [List.mem_singleton.1 hy]; exact ht
/-- bytes of one's own, or of an argument: all but how large the capacity may be -/
structure SB.okN (W : World) (s : SB) : Prop where
  rd : Rd W s.p (s.bs.flatMap encB)
  le : s.bs.length ≤ s.cap
  spot : s.cap ≠ 0 → ∀ ad, s.p = some ad → ad.spot = none
theorem SB.okN.ext {w w' : World} {s : SB} (h : s.okN w) (hx : Ext No w w') : s.okN w' := ⟨h.rd.ext0 hx, h.le, h.spot⟩
theorem SB.ok.n {w : World} {s : SB} (h : s.ok w) : s.okN w := ⟨h.rd, h.le, h.spot⟩
theorem Held.okN {B L : List (Nat × Blk)} {u8 : Nat} {s : SB} {w0 w : World} {X : Bs} (h : Held B u8 s) (hm : Mem w0 w X L) (hs : ∀ e, e ∈ B → e ∈ L) : s.okN w := ⟨h.rd hm hs, h.le, h.spot⟩
end Go.Cx
