/- The program logic of these proofs, part P: lists of byte slices of one's own, their blocks in a bag in the same order. No condition. -/
import Derived.Test.YtabilcmhjnpjhaaCxM
namespace Go.Cx
set_option linter.unusedVariables false
set_option linter.unusedSimpArgs false
open Go
/-- the blocks of own byte slices, one for each -/
def Parts (u8 : Nat) (ss : List SB) (B : List (Nat × Blk)) : Prop := ss.length = B.length ∧ ∀ (i : Nat) (s : SB), ss[i]? = some s → ∃ g b, B[i]? = some (g, b) ∧ Acc u8 1 s.p s.bs.length s.cap (s.bs.flatMap encB) g b
theorem Parts.nil (u8 : Nat) : Parts u8 [] [] := ⟨rfl, fun i s h => by simp at h⟩
theorem Parts.add {u8 n cap g : Nat} {b : Blk} {p : Option Addr} {bs : List UInt8} {ss : List SB} {B : List (Nat × Blk)} (h : Parts u8 ss B) (ha : Acc u8 1 p n cap (bs.flatMap encB) g b) : Parts u8 (ss ++ [⟨p, cap, bs⟩]) (B ++ [(g, b)]) := by
  refine ⟨by simp [h.1], fun i s hi => ?_⟩
  rcases Nat.lt_or_ge i ss.length with hl | hl
  · rw [List.getElem?_append_left hl] at hi
    rw [List.getElem?_append_left (by rw [← h.1]; exact hl)]
    exact h.2 i s hi
  · have h5 := (List.getElem?_eq_some_iff.1 hi).1
    rw [List.length_append] at h5
    obtain rfl : i = ss.length := by simp at h5; omega
    rw [List.getElem?_append_right (Nat.le_refl _), Nat.sub_self] at hi
    cases hi
    rw [List.getElem?_append_right (by rw [h.1]; exact Nat.le_refl _), h.1, Nat.sub_self]
    exact ⟨g, b, rfl, by simp only; rw [← ha.lenB]; exact ha⟩
theorem Parts.rd {u8 : Nat} {ss : List SB} {B L : List (Nat × Blk)} {w0 w : World} {X : Bs} (h : Parts u8 ss B) (hm : Mem w0 w X L) (hs : ∀ e, e ∈ B → e ∈ L) : ∀ s ∈ ss, Rd w s.p (s.bs.flatMap encB) := fun s hss => by
  obtain ⟨i, hi⟩ := List.getElem?_of_mem hss
  obtain ⟨g, b, h1, h2⟩ := h.2 i s hi
  exact h2.rdM hm (hs _ (List.mem_of_getElem? h1))
theorem drop_next {α : Type} {B : List α} {j : Nat} {q : α} (h : B[j]? = some q) : B.drop j = q :: B.drop (j + 1) := by
  obtain ⟨hl, he⟩ := List.getElem?_eq_some_iff.1 h
  rw [List.drop_eq_getElem_cons hl, he]
theorem Parts.step {u8 j : Nat} {s : SB} {ss : List SB} {B R : List (Nat × Blk)} (h : Parts u8 ss B) (hR : ∃ D, R = B.drop j ++ D) (hi : ss[j]? = some s) : ∃ g b R', R = (g, b) :: R' ∧ Acc u8 1 s.p s.bs.length s.cap (s.bs.flatMap encB) g b ∧ ∀ e, ∃ D, R' ++ [e] = B.drop (j + 1) ++ D := by
  obtain ⟨g, b, h1, h2⟩ := h.2 j s hi
  obtain ⟨D, rfl⟩ := hR
  exact ⟨g, b, B.drop (j + 1) ++ D, by rw [drop_next h1]; rfl, h2, fun e => ⟨D ++ [e], by rw [List.append_assoc]⟩⟩
theorem Mem.pull {w0 w : World} {X : Bs} {L : List (Nat × Blk)} (h : Mem w0 w X L) (k : Nat) {q : Nat × Blk} (hk : blk L k = some q) : Mem w0 w X (q :: L.eraseIdx k) := h.perm (perm_get L k q hk)
theorem bs_flat {ss ps : List SB} (h : ss.map (·.bs) = ps.map (·.bs)) : ss.flatMap (·.bs) = ps.flatMap (·.bs) := by
  rw [List.flatMap_def, List.flatMap_def, h]
theorem len_flat {ss : List SB} {j : Nat} {s : SB} (h : ss[j]? = some s) : s.bs.length ≤ (ss.flatMap (·.bs)).length := by
  obtain ⟨a, b, rfl⟩ := List.append_of_mem (List.mem_of_getElem? h)
  simp only [List.flatMap_append, List.flatMap_cons, List.length_append]
  omega
end Go.Cx
