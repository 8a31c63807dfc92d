/- Glue for the laws of devices: steps, the reference's fields. No condition. -/
import Derived.Test.YthokcfkcamcapaaCxZ
namespace Go.Pl
set_option linter.unusedVariables false
set_option linter.unusedSimpArgs false
theorem fDv_dk {D : Dv} (h : D.dn = false) : (fDv D).dk = contents D := by
  unfold fDv
  rw [if_neg (by simp [h])]
  exact pers_all _ _ _ _
theorem fDv_ca {D : Dv} (h : D.dn = false) : (fDv D).ca = [] := by
  unfold fDv
  rw [if_neg (by simp [h])]
  rfl
theorem fDv_sz (D : Dv) : (fDv D).sz = D.sz ∧ (fDv D).cnt = D.cnt := by
  unfold fDv
  split <;> exact ⟨rfl, rfl⟩
theorem sDv_dk (D : Dv) : (sDv D).dk = D.dk := pers_none _ _ _ _
theorem sDv_rd (D : Dv) (i : Int) : rdS (sDv D) i = (D.dk.drop (i.toNat * D.sz)).take D.sz := by
  unfold rdS
  rw [show contents (sDv D) = D.dk from sDv_dk D]
  rfl
theorem sDv_code (D : Dv) {i : Nat} (h : i < D.cnt) : codeAt (sDv D) (i : Int) = 0 := by
  unfold codeAt
  rw [if_neg (show ¬ (sDv D).dn = true from Bool.false_ne_true), if_neg]
  show ¬ ((i : Int) < 0 ∨ (D.cnt : Int) ≤ i)
  omega
end Go.Pl
namespace Go.Cx
set_option linter.unusedVariables false
set_option linter.unusedSimpArgs false
open Go
/-- a step of a law -/
structure StV where
  k : Int
  n : Int
  s : SB
  kp : Int
def encSt (x : StV) : List Value := [.int .i64 x.k, .int .i64 x.n, .slice x.s.p x.s.bs.length x.s.cap, .int .u64 x.kp]
theorem encSt_len (x : StV) : (encSt x).length = 4 := rfl
def okSt (W : World) (x : StV) : Prop := x.s.ok W ∧ Pl.I64 x.k ∧ Pl.I64 x.n ∧ 0 ≤ x.kp ∧ x.kp ≤ 18446744073709551615
def StV.app (x : StV) (D : Pl.Dv) : Pl.Dv := Pl.opDv D x.k x.n x.s.bs x.kp
/-- what came in lies apart from the blocks of the devices -/
theorem Mem.apartZ {w0 w : World} {A Z : List (Nat × Blk)} {p : Option Addr} {cs : List Value} (hm : Mem w0 w No (A ++ Z)) (hR : Rd w0 p cs) : cs ≠ [] → ∀ ad, p = some ad → ¬ Mn (reals Z) ad.block := fun h ad e hn => by
  have h1 := hR.lt h ad e
  obtain ⟨b, hb, hr⟩ := mem_reals.1 hn
  have h2 := (hm.fresh _ (List.mem_append_right _ hb) hr).resolve_left id
  simp only at h2
  omega
theorem RefZ.row {TD TP U8 : Nat} {D : Pl.Dv} {m : Nat} {Z : List (Nat × Blk)} {w : World} (h : RefZ TD TP U8 D m Z) (hZ : OwnZ w Z) : ∃ (pb : Option Addr) (cb : Nat) (pc : Option Addr) (cc : Nat) (cs : List PdV), w.heap[m]? = some (Blk.row TD (rfV D pb cb pc cc)).toObj ∧ Held Z U8 ⟨pb, cb, D.dk⟩ ∧ HeldP Z TP U8 pc cc cs ∧ cs.map PdV.wr = D.ca := by
  obtain ⟨pb, cb, pc, cc, cs, B, rfl, hb, hp, hw, hok⟩ := h
  exact ⟨pb, cb, pc, cc, cs, hZ.get (k := 0) rfl, hb.mono (fun _ he => List.mem_cons_of_mem _ he), hp.mono (fun _ he => List.mem_cons_of_mem _ he), hw⟩
/-- two new bags, in this order or in the other -/
theorem Mem.callT2 {w0 w w' : World} {X : Bs} {A Z1 Z2 : List (Nat × Blk)} (h : Mem w0 w X (A ++ Z1)) (hc : Mem w w' No Z2) : Mem w0 w' X (A ++ (Z1 ++ Z2)) := by
  rw [← List.append_assoc]; exact h.callTZ hc
theorem Mem.callT3 {w0 w w' : World} {X : Bs} {A Z1 Z2 : List (Nat × Blk)} (h : Mem w0 w X (A ++ Z2)) (hc : Mem w w' No Z1) : Mem w0 w' X (A ++ (Z1 ++ Z2)) :=
  (h.callT2 hc).perm (List.Perm.append_left _ List.perm_append_comm)
theorem Held.rdL {B L : List (Nat × Blk)} {u8 : Nat} {s : SB} {w0 w : World} {X : Bs} (h : Held B u8 s) (hm : Mem w0 w X L) (hs : ∀ e, e ∈ B → e ∈ L) : Rd w s.p (s.bs.flatMap encB) := h.rd hm hs
theorem rightB {x y n : Int} (h : Pl.right x y n = true) : 1 ≤ x ∧ 1 ≤ y ∧ x ≤ 1048576 ∧ y ≤ 1048576 := by
  rw [← right_b] at h
  simp only [Bool.and_eq_true, decide_eq_true_eq] at h
  exact ⟨h.1.1.1.1.1, h.1.1.1.1.2, h.1.1.1.2, h.1.1.2⟩
theorem Mem.callT4 {w0 w w' : World} {X : Bs} {A Z1 Z2 N : List (Nat × Blk)} (h : Mem w0 w X (A ++ (Z1 ++ Z2))) (hc : Mem w w' No N) : Mem w0 w' X (A ++ (Z1 ++ (Z2 ++ N))) := by
  have h1 := h.callTZ hc
  rwa [List.append_assoc, List.append_assoc] at h1
end Go.Cx
