/- Glue for the laws of plans. No condition. -/
import Derived.Test.YtpandemmaoeioaaCxS
import Derived.Test.YtpandemmaoeioaaPlI
namespace Go.Cx
set_option linter.unusedVariables false
set_option linter.unusedSimpArgs false
open Go
theorem stT_cmd : ∀ (xs : List (Nat × Pl.Cm)) (b : Nat), (stT b xs).map (fun z => z.2.1) = xs.map fun x => (x.1 : Int)
  | [], _ => rfl
  | x :: r, b => by simp only [stT, List.map_cons, stT_cmd r (b + 1)]
theorem stT_cm : ∀ (xs : List (Nat × Pl.Cm)) (b : Nat), (stT b xs).map (fun z => z.2.2) = xs.map (·.2)
  | [], _ => rfl
  | x :: r, b => by simp only [stT, List.map_cons, stT_cm r (b + 1)]
theorem idxT {ts : List (Int × Int × CmdV)} {st : List (Nat × Pl.Cm)} (h : ts.map (fun t => (t.1, t.2.1, t.2.2.cm)) = stT 0 st) (k : Int) : Pl.idx (fun t => decide (t.2.1 = k)) ts = Pl.idx (fun x : Nat × Pl.Cm => decide ((x.1 : Int) = k)) st := by
  have h1 := stT_cmd st 0
  rw [← h, List.map_map] at h1
  have h2 := Pl.idx_map (fun t : Int × Int × CmdV => t.2.1) (fun y => decide (y = k)) ts
  have h3 := Pl.idx_map (fun x : Nat × Pl.Cm => (x.1 : Int)) (fun y => decide (y = k)) st
  rw [← h2, ← h3, ← h1]
  rfl
theorem wsum_snd : ∀ {xs ys : List (Nat × Pl.Cm)}, xs.map (·.2) = ys.map (·.2) → Pl.wsum xs = Pl.wsum ys
  | [], [], _ => rfl
  | [], _ :: _, h => by simp at h
  | _ :: _, [], h => by simp at h
  | x :: r, y :: s, h => by
    simp only [List.map_cons, List.cons.injEq] at h
    simp only [Pl.wsum, h.1, wsum_snd h.2]
theorem wsumT_eq {ts : List (Int × Int × CmdV)} {st : List (Nat × Pl.Cm)} (h : ts.map (fun t => (t.1, t.2.1, t.2.2.cm)) = stT 0 st) (n : Nat) : wsumT (ts.take n) = Pl.wsum (st.take n) := by
  unfold wsumT
  refine wsum_snd ?_
  have h1 := stT_cm st 0
  rw [← h, List.map_map] at h1
  rw [List.map_map, List.map_take, List.map_take, ← h1]
  rfl
theorem partT {ts : List (Int × Int × CmdV)} {st : List (Nat × Pl.Cm)} (h : ts.map (fun t => (t.1, t.2.1, t.2.2.cm)) = stT 0 st) (a k : Nat) : ((((ts.drop a).take k).map (fun t => t.2.2)).map CmdV.cm) = Pl.part st a k := by
  have h1 := stT_cm st 0
  rw [← h, List.map_map] at h1
  unfold Pl.part
  rw [List.map_map, List.map_take, List.map_drop, List.map_take, List.map_drop, ← h1]
  rfl
theorem stT_ok {Q : Pl.Cm → Prop} : ∀ {st : List (Nat × Pl.Cm)} {b : Nat} {z : Int × Int × Pl.Cm}, (∀ x ∈ st, Q x.2) → z ∈ stT b st → Q z.2.2
  | [], _, _, _, h => by simp [stT] at h
  | x :: r, b, z, hq, h => by
    simp only [stT, List.mem_cons] at h
    rcases h with rfl | h
    · exact hq x (by simp)
    · exact stT_ok (fun y hy => hq y (by simp [hy])) h
/-- the first elements of a list that is handed over, as a slice of it -/
theorem Rd.slpT {α : Type} {enc : α → List Value} {es cap : Nat} {w : World} {p : Option Addr} {xs : List α} (h : Rd w p (xs.flatMap enc)) (hl : xs.length ≤ cap) (k : Nat) : Rd w (Cx.slp p cap 0 es) ((xs.take k).flatMap enc) := by
  refine h.slp (fun j v hj => ?_) (fun hc => ?_)
  · rw [Nat.zero_mul, Nat.zero_add]
    have e : xs.flatMap enc = (xs.take k).flatMap enc ++ (xs.drop k).flatMap enc := by rw [← List.flatMap_append, List.take_append_drop]
    rw [e]
    exact List.getElem?_append_left (List.getElem?_eq_some_iff.1 hj).1 |>.trans hj
  · have : xs = [] := List.eq_nil_of_length_eq_zero (by omega)
    subst this; simp
end Go.Cx
