/- The program logic of these proofs, part M: bags of own blocks behind the named ones. No condition. -/
import Derived.Test.YtlgkhajmjgepaaaEnA
import Derived.Test.YtlgkhajmjgepaaaPlE
namespace Go.Cx
set_option linter.unusedVariables false
set_option linter.unusedSimpArgs false
open Go

theorem Acc.rdM {e es n cap g : Nat} {b : Blk} {p : Option Addr} {cells : List Value} {w0 w : World} {X : Bs} {L : List (Nat × Blk)} (h : Acc e es p n cap cells g b) (hm : Mem w0 w X L) (hin : (g, b) ∈ L) : Rd w p cells := by
  obtain ⟨j, hj⟩ := List.getElem?_of_mem hin
  exact h.rd hm j ((blk_eq L j).trans hj)
/-- the data of a command that was made here lie in a block of the bag -/
def Held (B : List (Nat × Blk)) (u8 : Nat) (s : SB) : Prop := ∃ g b, (g, b) ∈ B ∧ Acc u8 1 s.p s.bs.length s.cap (s.bs.flatMap encB) g b
theorem Held.rd {B L : List (Nat × Blk)} {u8 : Nat} {s : SB} {w0 w : World} {X : Bs} (h : Held B u8 s) (hm : Mem w0 w X L) (hs : ∀ e, e ∈ B → e ∈ L) : Rd w s.p (s.bs.flatMap encB) := by
  obtain ⟨g, b, h1, h2⟩ := h
  exact h2.rdM hm (hs _ h1)
theorem Held.mono {B C : List (Nat × Blk)} {u8 : Nat} {s : SB} (h : Held B u8 s) (hs : ∀ e, e ∈ B → e ∈ C) : Held C u8 s := by
  obtain ⟨g, b, h1, h2⟩ := h
  exact ⟨g, b, hs _ h1, h2⟩
theorem Held.left {B C : List (Nat × Blk)} {u8 : Nat} {s : SB} (h : Held B u8 s) : Held (B ++ C) u8 s := h.mono fun e he => List.mem_append_left _ he
theorem Held.right {B C : List (Nat × Blk)} {u8 : Nat} {s : SB} (h : Held C u8 s) : Held (B ++ C) u8 s := h.mono fun e he => List.mem_append_right _ he
theorem Held.le {B : List (Nat × Blk)} {u8 : Nat} {s : SB} (h : Held B u8 s) : s.bs.length ≤ s.cap := by
  obtain ⟨g, b, h1, h2⟩ := h
  exact h2.le
theorem Held.spot {B : List (Nat × Blk)} {u8 : Nat} {s : SB} (h : Held B u8 s) (hc : s.cap ≠ 0) : ∀ ad, s.p = some ad → ad.spot = none := by
  obtain ⟨g, b, h1, h2⟩ := h
  exact h2.spot hc
section
variable {w0 w w' : World} {X : Bs} {L N1 N2 : List (Nat × Blk)}
/-- a call that hands back blocks: some are named, the others go into the bag -/
theorem Mem.callT (h : Mem w0 w X L) (hc : Mem w w' No (N1 ++ N2)) : Mem w0 w' X (N1 ++ (L ++ N2)) := by
  refine (h.callN hc).perm ?_
  rw [List.append_assoc]
  exact List.Perm.append_left _ List.perm_append_comm
theorem Mem.callT1 {q : Nat × Blk} (h : Mem w0 w X L) (hc : Mem w w' No (q :: N2)) : Mem w0 w' X (q :: (L ++ N2)) := Mem.callT (N1 := [q]) h hc
/-- some of the named blocks, and the bag behind c of them -/
theorem Mem.pickT (h : Mem w0 w X L) (ks : List Nat) (c : Nat) (hk : (freeL ks && ks.all fun k => Nat.blt k c) = true) : Mem w0 w X (pickL L ks ++ L.drop c) := by
  simp only [Bool.and_eq_true, List.all_eq_true, Nat.blt_eq] at hk
  have h1 := h.pick ks hk.1
  refine ⟨h.os, h.tape, h.output, h.size, h.same, fun p hp hr => ?_, fun p hp hr => ?_, ?_⟩
  · rcases List.mem_append.1 hp with hp | hp
    · exact h1.own p hp hr
    · exact h.own p (List.mem_of_mem_drop hp) hr
  · rcases List.mem_append.1 hp with hp | hp
    · exact h1.fresh p hp hr
    · exact h.fresh p (List.mem_of_mem_drop hp) hr
  · rw [reals_app, List.nodup_append]
    have hd : Mem w0 w X (L.drop c) := h.drop (List.drop_sublist c L)
    refine ⟨h1.nodup, hd.nodup, ?_⟩
    intro a ha b hb e
    subst e
    obtain ⟨x, hx, hxr⟩ := mem_reals.1 ha
    obtain ⟨y, hy, hyr⟩ := mem_reals.1 hb
    obtain ⟨k, hkm, hkb⟩ := pickL_mem L ks _ hx
    have hlt := hk.2 k hkm
    obtain ⟨j, hj, hje⟩ := List.getElem_of_mem hy
    rw [List.getElem_drop] at hje
    have hjb : blk L (c + j) = some (a, y) := by rw [blk_eq, ← hje]; exact List.getElem?_eq_getElem (by simp at hj; omega)
    exact reals_ne L k (c + j) a a x y h.nodup hkb hjb hxr hyr (by omega) rfl
end
theorem cmds_get {xs : List CmdV} {i : Nat} {x : CmdV} (h : xs[i]? = some x) (j : Nat) (hj : j < 5) : (xs.flatMap encC)[i * 5 + j]? = (encC x)[j]? := fm_get encC_len xs i j x h hj
theorem Acc.lenE {α : Type} {enc : α → List Value} {e es n cap g : Nat} {b : Blk} {p : Option Addr} {xs : List α} (h : Acc e es p n cap (xs.flatMap enc) g b) (he : ∀ x, (enc x).length = es) (h0 : 0 < es) : n = xs.length := by
  have := h.len
  rw [fm_length he] at this
  exact (Nat.eq_of_mul_eq_mul_right h0 this).symm
/-- one of the bag's -/
theorem Acc.held {u8 n cap g : Nat} {b : Blk} {p : Option Addr} {bs : List UInt8} (h : Acc u8 1 p n cap (bs.flatMap encB) g b) {B : List (Nat × Blk)} (hin : (g, b) ∈ B) : Held B u8 ⟨p, cap, bs⟩ := ⟨g, b, hin, by rw [← h.lenB]; exact h⟩
/-- a command's cells, as an element -/
def mkC (c : Pl.Cm) (p : Option Addr) (cap : Nat) : CmdV := ⟨c.k, c.to, c.fr, c.ln, ⟨p, cap, c.bs⟩⟩
theorem mkC_cm (c : Pl.Cm) (p : Option Addr) (cap : Nat) : (mkC c p cap).cm = c := rfl
theorem encC_mk (c : Pl.Cm) (p : Option Addr) (cap : Nat) : encC (mkC c p cap) = cmV c p c.bs.length cap := rfl
theorem oneC : ∀ xs : List CmdV, (xs.flatMap encC).all (·.oneCell') = true
  | [] => rfl
  | x :: r => by simp only [List.flatMap_cons, List.all_append, oneC r, Bool.and_true]; rfl
theorem lenC (xs : List CmdV) : (xs.flatMap encC).length = xs.length * 5 := fm_length encC_len xs
theorem Mem.stow {w0 w : World} {X : Bs} {L : List (Nat × Blk)} (h : Mem w0 w X L) (k : Nat) {q : Nat × Blk} (hk : blk L k = some q) : Mem w0 w X (L.eraseIdx k ++ [q]) :=
  h.perm ((perm_get L k q hk).trans (List.perm_append_comm (l₁ := [q])))
theorem heldAll {B C : List (Nat × Blk)} {u8 : Nat} {xs : List CmdV} (h : ∀ x ∈ xs, Held B u8 x.d) (hs : ∀ e, e ∈ B → e ∈ C) : ∀ x ∈ xs, Held C u8 x.d := fun x hx => (h x hx).mono hs
theorem heldAdd {B : List (Nat × Blk)} {q : Nat × Blk} {u8 : Nat} {xs : List CmdV} {x : CmdV} (h : ∀ x ∈ xs, Held B u8 x.d) (hx : Held (B ++ [q]) u8 x.d) : ∀ y ∈ xs ++ [x], Held (B ++ [q]) u8 y.d := fun y hy => by
  rcases List.mem_append.1 hy with hy | hy
  · exact (h y hy).left
  · rw [List.mem_singleton.1 hy]; exact hx
theorem heldApp {B C : List (Nat × Blk)} {u8 : Nat} {xs ys : List CmdV} (h : ∀ x ∈ xs, Held B u8 x.d) (h' : ∀ x ∈ ys, Held C u8 x.d) : ∀ y ∈ xs ++ ys, Held (B ++ C) u8 y.d := fun y hy => by
  rcases List.mem_append.1 hy with hy | hy
  · exact (h y hy).left
  · exact (h' y hy).right
theorem cms_ne {xs ys : List CmdV} {k : Nat} {x y : CmdV} (hi : xs[k]? = some x) (hj : ys[k]? = some y) (h : Pl.csame x.cm y.cm = false) : xs.map CmdV.cm ≠ ys.map CmdV.cm := fun e => by
  have h9 : (xs.map CmdV.cm)[k]? = (ys.map CmdV.cm)[k]? := by rw [e]
  rw [List.getElem?_map, List.getElem?_map, hi, hj] at h9
  rw [Pl.csame_iff.2 (Option.some.inj h9)] at h
  cases h
theorem cm_at {xs : List CmdV} {ys : List Pl.Cm} {k : Nat} {x : CmdV} {d : Pl.Cm} (h : xs.map CmdV.cm = ys) (hi : xs[k]? = some x) (hd : ys[k]? = some d) : x.cm = d := by
  have h8 : (xs.map CmdV.cm)[k]? = some x.cm := by rw [List.getElem?_map, hi]; rfl
  rw [h, hd] at h8
  exact (Option.some.inj h8).symm
end Go.Cx
