/- Glue for the laws of devices. No condition. -/
import Derived.Test.YtibdmklcdllklaaCxV
namespace Go.Pl
set_option linter.unusedVariables false
set_option linter.unusedSimpArgs false
theorem new_zero (a c : Nat) (b : List UInt8) : ((nDv a c b).dk.drop b.length).any (fun x => decide (x ≠ 0)) = false := by
  show ((b ++ List.replicate (c * a - b.length) 0).drop b.length).any _ = false
  rw [List.drop_left, List.any_eq_false]
  intro x hx
  rw [(List.mem_replicate.1 hx).2]
  decide
theorem new_take (a c : Nat) (b : List UInt8) : (nDv a c b).dk.take b.length = b := by
  show (b ++ List.replicate (c * a - b.length) 0).take b.length = b
  exact List.take_left
theorem right_of {x y n : Int} (h : right x y n = true) : 1 ≤ x ∧ 1 ≤ y ∧ x * y ≤ 1048576 ∧ n ≤ x * y := by
  unfold right at h
  exact of_decide_eq_true h
theorem putS_eq (sz : Nat) (f : List UInt8) (i : Nat) (b : List UInt8) (hb : b.length = sz) : f.take (i * sz) ++ b ++ f.drop ((i + 1) * sz) = putS sz f (i, b) := by
  unfold putS put
  rw [hb, Nat.add_mul, Nat.one_mul]
theorem fold_next {sz : Nat} {l : List Wr} {f : List UInt8} {i : Nat} {c : Wr} (h : l[i]? = some c) : (l.take (i + 1)).foldl (putS sz) f = putS sz ((l.take i).foldl (putS sz) f) c := by
  rw [List.take_add_one, h, List.foldl_append]; rfl
/-- what a step of the law does to a device -/
def opDv (D : Dv) (k n : Int) (bs : List UInt8) (kp : Int) : Dv := if k = 0 then D else if k = 1 then wDv D n bs else if k = 2 then fDv D else if k = 3 then aDv D n kp else sDv D
def rdC (D : Dv) (i : Int) : List UInt8 := if codeAt D i = 0 then rdS D i else []
theorem rdC_len {D : Dv} (h : okDv D) (i : Int) : (rdC D i).length ≤ 1048576 := by
  have h1 : D.sz ≤ D.cnt * D.sz := Nat.le_mul_of_pos_left _ h.cnt
  have h2 := h.max
  unfold rdC
  split
  · unfold rdS; rw [List.length_take]; omega
  · simp
theorem opDv_ok {D : Dv} {k n : Int} {bs : List UInt8} {kp : Int} (h : okDv D) (hl : D.ca.length ≤ 1000000000) (hn : I64 n) (hk : 0 ≤ kp ∧ kp ≤ 18446744073709551615) : okDv (opDv D k n bs kp) := by
  unfold opDv
  split
  · exact h
  · split
    · exact ok_write h hl
    · split
      · exact ok_flush h
      · split
        · exact ok_arm h hn hk
        · exact ok_restart h
theorem opDv_len (D : Dv) (k n : Int) (bs : List UInt8) (kp : Int) : (opDv D k n bs kp).ca.length ≤ D.ca.length + 1 ∧ (opDv D k n bs kp).sz = D.sz ∧ (opDv D k n bs kp).cnt = D.cnt := by
  unfold opDv wDv fDv
  split
  · exact ⟨by omega, rfl, rfl⟩
  · split
    · split
      · exact ⟨by omega, rfl, rfl⟩
      · split
        · exact ⟨by simp [wAdd], rfl, rfl⟩
        · split
          · exact ⟨by simp [wAdd], rfl, rfl⟩
          · exact ⟨by simp [persist], rfl, rfl⟩
    · split
      · split
        · exact ⟨by omega, rfl, rfl⟩
        · exact ⟨by simp [persist], rfl, rfl⟩
      · split
        · exact ⟨by simp [aDv], rfl, rfl⟩
        · exact ⟨by simp [sDv, persist], rfl, rfl⟩
end Go.Pl
namespace Go.Cx
set_option linter.unusedVariables false
set_option linter.unusedSimpArgs false
open Go
theorem oneP (l : List PdV) : (l.flatMap encP).all (·.oneCell') = true := by
  rw [List.all_flatMap]
  exact List.all_eq_true.2 fun x _ => rfl
theorem lenP (l : List PdV) : (l.flatMap encP).length = l.length * 2 := by
  induction l with
  | nil => rfl
  | cons x r ih => rw [List.flatMap_cons, List.length_append, ih, List.length_cons]; show 2 + _ = _; omega
theorem HeldP.mono {B C : List (Nat × Blk)} {tp u8 : Nat} {p : Option Addr} {cap : Nat} {cs : List PdV} (h : HeldP B tp u8 p cap cs) (hs : ∀ e, e ∈ B → e ∈ C) : HeldP C tp u8 p cap cs := by
  obtain ⟨⟨g, b, h1, h2⟩, h3⟩ := h
  exact ⟨⟨g, b, hs _ h1, h2⟩, fun c hc => (h3 c hc).mono hs⟩
theorem HeldP.rd {B L : List (Nat × Blk)} {tp u8 : Nat} {p : Option Addr} {cap : Nat} {cs : List PdV} {w0 w : World} {X : Bs} (h : HeldP B tp u8 p cap cs) (hm : Mem w0 w X L) (hs : ∀ e, e ∈ B → e ∈ L) : Rd w p (cs.flatMap encP) := by
  obtain ⟨⟨g, b, h1, h2⟩, h3⟩ := h
  exact h2.rdM hm (hs _ h1)
theorem HeldP.rdO {B Z : List (Nat × Blk)} {tp u8 : Nat} {p : Option Addr} {cap : Nat} {cs : List PdV} {w : World} (h : HeldP B tp u8 p cap cs) (hZ : OwnZ w Z) (hs : ∀ e, e ∈ B → e ∈ Z) : Rd w p (cs.flatMap encP) := h.rd hZ.start hs
theorem HeldP.le {B : List (Nat × Blk)} {tp u8 : Nat} {p : Option Addr} {cap : Nat} {cs : List PdV} (h : HeldP B tp u8 p cap cs) : cs.length ≤ cap := by
  obtain ⟨⟨g, b, h1, h2⟩, h3⟩ := h
  exact h2.le
/-- a slice that blocks of old or new ones hold -/
theorem Held.rd2 {B N Z : List (Nat × Blk)} {u8 : Nat} {s : SB} {w0 w : World} (h : Held (N ++ B) u8 s) (hZ : OwnZ w0 Z) (hs : ∀ e, e ∈ B → e ∈ Z) (hm : Mem w0 w No N) : Rd w s.p (s.bs.flatMap encB) := by
  obtain ⟨g, b, h1, h2⟩ := h
  rcases List.mem_append.1 h1 with h | h
  · exact h2.rdM hm h
  · exact (h2.rdO hZ (hs _ h)).ext0 hm.to
theorem Mem.callT0 {w0 w w' : World} {X : Bs} {Z : List (Nat × Blk)} (h : Mem w0 w X []) (hc : Mem w w' No Z) : Mem w0 w' X Z := h.callTZ hc
theorem Mem.callN1 {w0 w w' : World} {X : Bs} {x : Nat × Blk} {B N : List (Nat × Blk)} (h : Mem w0 w X (x :: B)) (hc : Mem w w' No N) : Mem w0 w' X (x :: (N ++ B)) := (h.callN hc).perm List.perm_middle
theorem ref_mk {TD TP U8 : Nat} {D : Pl.Dv} {m : Nat} {pb : Option Addr} {cb : Nat} {pc : Option Addr} {cc : Nat} {cs : List PdV} {B : List (Nat × Blk)} (hb : Held B U8 ⟨pb, cb, D.dk⟩) (hp : HeldP B TP U8 pc cc cs) (hw : cs.map PdV.wr = D.ca) (hok : Pl.okDv D) : RefZ TD TP U8 D m ((m, .row TD (rfV D pb cb pc cc)) :: B) := ⟨pb, cb, pc, cc, cs, B, rfl, hb, hp, hw, hok⟩
theorem heldP_nil (TP U8 : Nat) {B : List (Nat × Blk)} (h : (0, Blk.gap) ∈ B) : HeldP B TP U8 none 0 [] := ⟨⟨0, .gap, h, .nil _ _ _ _⟩, by simp⟩
theorem HeldP.add {B : List (Nat × Blk)} {tp u8 : Nat} {p p2 : Option Addr} {cap cap2 n n2 gc gs cps : Nat} {bc b : Blk} {ps : Option Addr} {cs : List PdV} {i : Int} {bs : List UInt8} (hp : HeldP B tp u8 p cap cs) (ha : Acc tp 2 p2 n cap2 (cs.flatMap encP ++ [.int .i64 i, .slice ps n2 cps]) gc bc) (hn : n = cs.length + 1) (hin : ((i.toNat : Nat) : Int) = i) (hs : Acc u8 1 ps n2 cps (bs.flatMap encB) gs b) (hn2 : n2 = bs.length) :
    HeldP ((gc, bc) :: (gs, b) :: B) tp u8 p2 cap2 (cs ++ [⟨i.toNat, ⟨ps, cps, bs⟩⟩]) := by
  subst hn2 hn
  refine ⟨⟨gc, bc, by simp, ?_⟩, fun c hc => ?_⟩
  · rw [List.flatMap_append, List.flatMap_singleton, List.length_append]
    show Acc tp 2 p2 _ cap2 (cs.flatMap encP ++ [.int .i64 (i.toNat : Int), .slice ps bs.length cps]) gc bc
    rw [hin]
    exact ha
  · rcases List.mem_append.1 hc with hc | hc
    · exact (hp.2 c hc).mono fun e he => List.mem_cons_of_mem _ (List.mem_cons_of_mem _ he)
    · rw [List.mem_singleton.1 hc]; exact ⟨gs, b, by simp, hs⟩
theorem wr_add {cs : List PdV} {l : List Pl.Wr} (h : cs.map PdV.wr = l) (i : Nat) (s : SB) : (cs ++ [(⟨i, s⟩ : PdV)]).map PdV.wr = l ++ [(i, s.bs)] := by rw [List.map_append, h]; rfl
theorem Mn_left {A B : List (Nat × Blk)} {y : Nat} (h : Mn (reals A) y) : Mn (reals (A ++ B)) y := by rw [reals_app]; exact List.mem_append_left _ h
theorem Mn_right {A B : List (Nat × Blk)} {y : Nat} (h : Mn (reals B) y) : Mn (reals (A ++ B)) y := by rw [reals_app]; exact List.mem_append_right _ h
theorem RefZ.ok {TD TP U8 : Nat} {D : Pl.Dv} {m : Nat} {Z : List (Nat × Blk)} (h : RefZ TD TP U8 D m Z) : Pl.okDv D := by
  obtain ⟨pb, cb, pc, cc, cs, B, _, _, _, _, h⟩ := h
  exact h
end Go.Cx
