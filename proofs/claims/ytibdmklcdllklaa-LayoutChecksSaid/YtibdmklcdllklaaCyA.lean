/- Glue for the laws of devices: steps, the reference's fields. No condition. -/
import Derived.Test.YtibdmklcdllklaaCxZ
namespace Go.Pl
set_option linter.unusedVariables false
set_option linter.unusedSimpArgs false
theorem fDv_dk {D : Dv} (h : D.dn = false) : (fDv D).dk = contents D := by
  unfold fDv
  rw [if_neg (by simp [h])]
  exact pers_all _ _ _ _
theorem fDv_ca {D : Dv} (h : D.dn = false) : (fDv D).ca = [] := by
  unfold fDv
  rw [if_neg (by simp [h])]
  rfl
theorem fDv_sz (D : Dv) : (fDv D).sz = D.sz ∧ (fDv D).cnt = D.cnt := by
  unfold fDv
  split <;> exact ⟨rfl, rfl⟩
theorem sDv_dk (D : Dv) : (sDv D).dk = D.dk := pers_none _ _ _ _
theorem sDv_rd (D : Dv) (i : Int) : rdS (sDv D) i = (D.dk.drop (i.toNat * D.sz)).take D.sz := by
  unfold rdS
  rw [show contents (sDv D) = D.dk from sDv_dk D]
  rfl
theorem sDv_code (D : Dv) {i : Nat} (h : i < D.cnt) : codeAt (sDv D) (i : Int) = 0 := by
  unfold codeAt
  rw [if_neg (show ¬ (sDv D).dn = true from Bool.false_ne_true), if_neg]
  show ¬ ((i : Int) < 0 ∨ (D.cnt : Int) ≤ i)
  omega
theorem pers_sec {sz cnt i : Nat} {keep : Nat → Bool} (hi : i < cnt) : ∀ {l : List Wr} {k : Nat} {f : List UInt8}, f.length = cnt * sz → (∀ c ∈ l, c.1 < cnt ∧ c.2.length = sz) →
    ((pers sz keep k f l).drop (i * sz)).take sz = (f.drop (i * sz)).take sz ∨ ∃ c ∈ l, c.1 = i ∧ ((pers sz keep k f l).drop (i * sz)).take sz = c.2
  | [], k, f, hf, h => .inl rfl
  | c :: r, k, f, hf, h => by
    have hc := h c (by simp)
    have hr := fun d hd => h d (List.mem_cons_of_mem _ hd)
    unfold pers
    cases hk : keep k with
    | false =>
      simp only [cond_false]
      rcases pers_sec hi (keep := keep) (k := k + 1) hf hr with h1 | ⟨d, hd, h1, h2⟩
      · exact .inl h1
      · exact .inr ⟨d, List.mem_cons_of_mem _ hd, h1, h2⟩
    | true =>
      simp only [cond_true]
      have hl := putS_len hf hc.1 hc.2
      have hs := sector_put (b := c.2) hf hc.1 hi hc.2
      rcases pers_sec hi (keep := keep) (k := k + 1) (hl.trans hf) hr with h1 | ⟨d, hd, h1, h2⟩
      · rw [h1]
        unfold putS
        rw [hs]
        by_cases e : i = c.1
        · rw [if_pos e]; exact .inr ⟨c, by simp, e.symm, rfl⟩
        · rw [if_neg e]; exact .inl rfl
      · exact .inr ⟨d, List.mem_cons_of_mem _ hd, h1, h2⟩
/-- the state in which the crash comes: at the next write, of zero bytes, to sector 0 -/
def crD (D : Dv) (u : Int) : Dv := wDv (aDv D 0 u) 0 (List.replicate D.sz 0)
theorem crD_eq {D : Dv} {u : Int} (h : okDv D) (hd : D.dn = false) : wCode (aDv D 0 u) 0 (List.replicate D.sz 0) = 18 ∧ (crD D u).dn = true ∧ (crD D u).dk = pers D.sz (keepB u) 0 D.dk (D.ca ++ [(0, List.replicate D.sz 0)]) := by
  have hc : codeAt (aDv D 0 u) 0 = 0 := by
    unfold codeAt
    rw [if_neg (show ¬ (aDv D 0 u).dn = true by show ¬ D.dn = true; simp [hd]), if_neg]
    have := h.cnt
    show ¬ ((0 : Int) < 0 ∨ (D.cnt : Int) ≤ 0)
    omega
  have hb : (List.replicate D.sz (0 : UInt8)).length = (aDv D 0 u).sz := List.length_replicate
  have hw : (aDv D 0 u).wr = 0 := by show max (0 : Int) (-1) = 0; decide
  refine ⟨by rw [wCode_cr hc hb, if_pos hw], ?_, ?_⟩
  · show (wDv _ _ _).dn = true
    rw [wDv_cr hc hb hw]
  · show (wDv _ _ _).dk = _
    rw [wDv_cr hc hb hw]
    rfl
theorem crD_len {D : Dv} {u : Int} (h : okDv D) (hd : D.dn = false) : (crD D u).dk.length = D.dk.length := by
  rw [(crD_eq h hd).2.2]
  refine pers_len h.len fun c hc => ?_
  rcases List.mem_append.1 hc with hc | hc
  · exact h.ca c hc
  · rw [List.mem_singleton.1 hc]; exact ⟨h.cnt, List.length_replicate⟩
/-- what a sector holds after the crash -/
theorem crD_sec {D : Dv} {u : Int} {i : Nat} (h : okDv D) (hd : D.dn = false) (hi : i < D.cnt) :
    (((crD D u).dk.drop (i * D.sz)).take D.sz = (D.dk.drop (i * D.sz)).take D.sz ∨ (i = 0 ∧ ((crD D u).dk.drop (i * D.sz)).take D.sz = List.replicate D.sz 0)) ∨ ∃ c ∈ D.ca, c.1 = i ∧ ((crD D u).dk.drop (i * D.sz)).take D.sz = c.2 := by
  rw [(crD_eq h hd).2.2]
  have hall : ∀ c ∈ D.ca ++ [(0, List.replicate D.sz (0 : UInt8))], c.1 < D.cnt ∧ c.2.length = D.sz := fun c hc => by
    rcases List.mem_append.1 hc with hc | hc
    · exact h.ca c hc
    · rw [List.mem_singleton.1 hc]; exact ⟨h.cnt, List.length_replicate⟩
  rcases pers_sec (keep := keepB u) (k := 0) hi h.len hall with h1 | ⟨c, hc, h1, h2⟩
  · exact .inl (.inl h1)
  · rcases List.mem_append.1 hc with hc | hc
    · exact .inr ⟨c, hc, h1, h2⟩
    · rw [List.mem_singleton.1 hc] at h1 h2
      exact .inl (.inr ⟨h1.symm, h2⟩)
theorem keep_code {a c : Nat} {bs : List UInt8} {i : Int} (h0 : 0 ≤ i) (h1 : i < c) : codeAt (nDv a c bs) i = 0 ∧ wCode (nDv a c bs) i (List.replicate a 0) = 0 ∧ codeAt (wDv (nDv a c bs) i (List.replicate a 0)) i = 0 := by
  have hc : codeAt (nDv a c bs) i = 0 := by
    unfold codeAt
    rw [if_neg (show ¬ (nDv a c bs).dn = true from Bool.false_ne_true), if_neg]
    show ¬ (i < 0 ∨ (c : Int) ≤ i)
    omega
  have hb : (List.replicate a (0 : UInt8)).length = (nDv a c bs).sz := List.length_replicate
  have hw : (nDv a c bs).wr = -1 := rfl
  refine ⟨hc, by rw [wCode_cr hc hb, if_neg (by rw [hw]; decide)], ?_⟩
  rw [wDv_off hc hb (by rw [hw]; decide)]
  exact hc
end Go.Pl
namespace Go.Cx
set_option linter.unusedVariables false
set_option linter.unusedSimpArgs false
open Go
/-- a step of a law -/
structure StV where
  k : Int
  n : Int
  s : SB
  kp : Int
def encSt (x : StV) : List Value := [.int .i64 x.k, .int .i64 x.n, .slice x.s.p x.s.bs.length x.s.cap, .int .u64 x.kp]
theorem encSt_len (x : StV) : (encSt x).length = 4 := rfl
def okSt (W : World) (x : StV) : Prop := x.s.ok W ∧ Pl.I64 x.k ∧ Pl.I64 x.n ∧ 0 ≤ x.kp ∧ x.kp ≤ 18446744073709551615
def StV.app (x : StV) (D : Pl.Dv) : Pl.Dv := Pl.opDv D x.k x.n x.s.bs x.kp
/-- what came in lies apart from the blocks of the devices -/
theorem Mem.apartZ {w0 w : World} {A Z : List (Nat × Blk)} {p : Option Addr} {cs : List Value} (hm : Mem w0 w No (A ++ Z)) (hR : Rd w0 p cs) : cs ≠ [] → ∀ ad, p = some ad → ¬ Mn (reals Z) ad.block := fun h ad e hn => by
  have h1 := hR.lt h ad e
  obtain ⟨b, hb, hr⟩ := mem_reals.1 hn
  have h2 := (hm.fresh _ (List.mem_append_right _ hb) hr).resolve_left id
  simp only at h2
  omega
theorem RefZ.row {TD TP U8 : Nat} {D : Pl.Dv} {m : Nat} {Z : List (Nat × Blk)} {w : World} (h : RefZ TD TP U8 D m Z) (hZ : OwnZ w Z) : ∃ (pb : Option Addr) (cb : Nat) (pc : Option Addr) (cc : Nat) (cs : List PdV), w.heap[m]? = some (Blk.row TD (rfV D pb cb pc cc)).toObj ∧ Held Z U8 ⟨pb, cb, D.dk⟩ ∧ HeldP Z TP U8 pc cc cs ∧ cs.map PdV.wr = D.ca := by
  obtain ⟨pb, cb, pc, cc, cs, B, rfl, hb, hp, hw, hok⟩ := h
  exact ⟨pb, cb, pc, cc, cs, hZ.get (k := 0) rfl, hb.mono (fun _ he => List.mem_cons_of_mem _ he), hp.mono (fun _ he => List.mem_cons_of_mem _ he), hw⟩
/-- two new bags, in this order or in the other -/
theorem Mem.callT2 {w0 w w' : World} {X : Bs} {A Z1 Z2 : List (Nat × Blk)} (h : Mem w0 w X (A ++ Z1)) (hc : Mem w w' No Z2) : Mem w0 w' X (A ++ (Z1 ++ Z2)) := by
  rw [← List.append_assoc]; exact h.callTZ hc
theorem Mem.callT3 {w0 w w' : World} {X : Bs} {A Z1 Z2 : List (Nat × Blk)} (h : Mem w0 w X (A ++ Z2)) (hc : Mem w w' No Z1) : Mem w0 w' X (A ++ (Z1 ++ Z2)) :=
  (h.callT2 hc).perm (List.Perm.append_left _ List.perm_append_comm)
theorem Held.rdL {B L : List (Nat × Blk)} {u8 : Nat} {s : SB} {w0 w : World} {X : Bs} (h : Held B u8 s) (hm : Mem w0 w X L) (hs : ∀ e, e ∈ B → e ∈ L) : Rd w s.p (s.bs.flatMap encB) := h.rd hm hs
theorem rightB {x y n : Int} (h : Pl.right x y n = true) : 1 ≤ x ∧ 1 ≤ y ∧ x ≤ 1048576 ∧ y ≤ 1048576 := by
  rw [← right_b] at h
  simp only [Bool.and_eq_true, decide_eq_true_eq] at h
  exact ⟨h.1.1.1.1.1, h.1.1.1.1.2, h.1.1.1.2, h.1.1.2⟩
theorem Mem.callT4 {w0 w w' : World} {X : Bs} {A Z1 Z2 N : List (Nat × Blk)} (h : Mem w0 w X (A ++ (Z1 ++ Z2))) (hc : Mem w w' No N) : Mem w0 w' X (A ++ (Z1 ++ (Z2 ++ N))) := by
  have h1 := h.callTZ hc
  rwa [List.append_assoc, List.append_assoc] at h1
theorem Rd.to9 {w : World} {p : Option Addr} {cs ds : List Value} (h : Rd w p cs) (e : cs = ds) : Rd w p ds := e ▸ h
theorem crash_ok {S O Z : List UInt8} {y : Nat} {cs : List PdV} {ca : List Pl.Wr} (hw : cs.map PdV.wr = ca) (h : (S = O ∨ (y = 0 ∧ S = Z)) ∨ ∃ c ∈ ca, c.1 = y ∧ S = c.2) :
    ((decide (S = O) || (decide ((y : Int) = 0) && decide (S = Z))) || cs.any fun z => decide ((z.i : Int) = (y : Int)) && decide (S = z.d.bs)) = true := by
  simp only [Bool.or_eq_true, Bool.and_eq_true, decide_eq_true_eq, List.any_eq_true]
  rcases h with (h | ⟨h1, h2⟩) | ⟨c, hc, h1, h2⟩
  · exact .inl (.inl h)
  · exact .inl (.inr ⟨by omega, h2⟩)
  · rw [← hw] at hc
    obtain ⟨z, hz, rfl⟩ := List.mem_map.1 hc
    exact .inr ⟨z, hz, congrArg Nat.cast h1, h2⟩
/-- a slice of bytes, whichever they are -/
def AccB (u8 : Nat) (p : Option Addr) (n cap g : Nat) (b : Blk) : Prop := ∃ xs : List UInt8, xs.length = n ∧ Acc u8 1 p n cap (xs.flatMap encB) g b
theorem b_add3 {x : UInt8} : IntKind.u8.wrap ((x.toNat : Int) + 3) = ((x + 3).toNat : Int) := by
  have h : IntKind.u8.wrap ((x.toNat : Int) + 3) = ((x.toNat : Int) + 3) % 256 := by simp [IntKind.wrap, IntKind.signed, IntKind.bits]
  rw [h, UInt8.toNat_add]
  show _ = (((x.toNat + 3) % 256 : Nat) : Int)
  omega
theorem Rd.heap {w w' : World} {p : Option Addr} {cs : List Value} (h : Rd w p cs) (e : w'.heap = w.heap) : Rd w' p cs := by
  cases p with
  | none => exact h
  | some a => exact ⟨h.1, fun j v hj => by have := h.2 j v hj; unfold World.cell? at this ⊢; rw [e]; exact this⟩

section
variable {P : Program} {r : Option Nat} {k : Ks} {ops : Array Oper} {md : Md} {n : Nat} {D : List Deferred} {S : List (Nat × Value)} {w : World} {i : Nat} {t : Tr}
/-- an operation that all others stand ahead of or behind: behind it the region is drawn anew, from the world that it leaves -/
theorem a_acto (h : HR P r k ops none n D S (.act i (.opn t)) w) : HR P r k ops md n D S (.acto i t) w := fun a hf => OpG.mono (h a hf) fun _ _ h' => h'.2
theorem a_opn (Y : Bs) {w0 : World} {X : Bs} {L : List (Nat × Blk)} (hM : Mem w0 w X L) (h : Mem w0 w X L → Hold (some (w, Y)) w → HR P r k ops (some (w, Y)) n D S t w) : HR P r k ops none n D S (.opn t) w := fun a hf => ⟨Y, h hM (Ext.refl _ _) a hf⟩
end
end Go.Cx
