/- Plain law of SHA-256 digests: rounds, blocks, messages. No condition. -/
import Derived.Test.YtibdmklcdllklaaEnA
namespace Go.Pl
set_option linter.unusedVariables false
set_option linter.unusedSimpArgs false
def rotr (x n : UInt32) : UInt32 := (x >>> n) ||| (x <<< (32 - n))
def sg0 (x : UInt32) : UInt32 := (rotr x 7 ^^^ rotr x 18) ^^^ (x >>> 3)
def sg1 (x : UInt32) : UInt32 := (rotr x 17 ^^^ rotr x 19) ^^^ (x >>> 10)
def su0 (x : UInt32) : UInt32 := (rotr x 2 ^^^ rotr x 13) ^^^ rotr x 22
def su1 (x : UInt32) : UInt32 := (rotr x 6 ^^^ rotr x 11) ^^^ rotr x 25
def shCh (e f g : UInt32) : UInt32 := (e &&& f) ^^^ (~~~e &&& g)
def shMaj (a b c : UInt32) : UInt32 := ((a &&& b) ^^^ (a &&& c)) ^^^ (b &&& c)
structure S8 where
  a : UInt32
  b : UInt32
  c : UInt32
  d : UInt32
  e : UInt32
  f : UInt32
  g : UInt32
  h : UInt32
def S8.l (s : S8) : List UInt32 := [s.a, s.b, s.c, s.d, s.e, s.f, s.g, s.h]
def S8.add (s t : S8) : S8 := ⟨s.a + t.a, s.b + t.b, s.c + t.c, s.d + t.d, s.e + t.e, s.f + t.f, s.g + t.g, s.h + t.h⟩
def shT1 (v : S8) (k w : UInt32) : UInt32 := v.h + su1 v.e + shCh v.e v.f v.g + k + w
def shT2 (v : S8) : UInt32 := su0 v.a + shMaj v.a v.b v.c
def rnd (v : S8) (k w : UInt32) : S8 := ⟨shT1 v k w + shT2 v, v.a, v.b, v.c, v.d + shT1 v k w, v.e, v.f, v.g⟩
/-- n more words -/
def sched (l : List UInt32) : Nat → List UInt32
  | 0 => l
  | n + 1 => let r := sched l n; r ++ [sg1 (r.getD (n + 14) 0) + r.getD (n + 9) 0 + sg0 (r.getD (n + 1) 0) + r.getD n 0]
theorem sched_len (l : List UInt32) : ∀ n, (sched l n).length = l.length + n
  | 0 => rfl
  | n + 1 => by simp only [sched, List.length_append, sched_len l n, List.length_cons, List.length_nil]; omega
theorem sched_get (l : List UInt32) {i : Nat} : ∀ {n m : Nat}, n ≤ m → i < l.length + n → (sched l m)[i]? = (sched l n)[i]?
  | n, m, hnm, hi => by
    induction m with
    | zero => rw [show n = 0 by omega]
    | succ m ih =>
      by_cases e : n = m + 1
      · rw [e]
      · simp only [sched]
        rw [List.getElem?_append_left (by rw [sched_len]; omega)]
        exact ih (by omega)
theorem sched_getD (l : List UInt32) {i n m : Nat} (hnm : n ≤ m) (hi : i < l.length + n) : (sched l m).getD i 0 = (sched l n).getD i 0 := by
  simp only [List.getD_eq_getElem?_getD, sched_get l hnm hi]
/-- word 16 + n -/
theorem sched_next (l : List UInt32) (hl : l.length = 16) {n m : Nat} (h : n < m) : (sched l m)[16 + n]? = some (sg1 ((sched l m).getD (n + 14) 0) + (sched l m).getD (n + 9) 0 + sg0 ((sched l m).getD (n + 1) 0) + (sched l m).getD n 0) := by
  rw [sched_get l (n := n + 1) (by omega) (by omega), sched_getD l (n := n) (by omega) (by omega), sched_getD l (n := n) (i := n + 9) (by omega) (by omega), sched_getD l (n := n) (i := n + 1) (by omega) (by omega), sched_getD l (n := n) (i := n) (by omega) (by omega)]
  simp only [sched]
  rw [List.getElem?_append_right (by rw [sched_len]; omega), sched_len, hl, Nat.sub_self]
  rfl
def be4 (a b c d : UInt8) : UInt32 := (((a.toUInt32 <<< 24) ||| (b.toUInt32 <<< 16)) ||| (c.toUInt32 <<< 8)) ||| d.toUInt32
def wordB (b : List UInt8) (i : Nat) : UInt32 := be4 (b.getD (4 * i) 0) (b.getD (4 * i + 1) 0) (b.getD (4 * i + 2) 0) (b.getD (4 * i + 3) 0)
/-- the first n words of a block -/
def wordsB (b : List UInt8) (n : Nat) : List UInt32 := (List.range n).map (wordB b)
theorem wordsB_len (b : List UInt8) (n : Nat) : (wordsB b n).length = n := by simp [wordsB]
theorem wordsB_next (b : List UInt8) (n : Nat) : wordsB b (n + 1) = wordsB b n ++ [wordB b n] := by simp [wordsB, List.range_succ]
def shK : List UInt32 := [
  0x428a2f98, 0x71374491, 0xb5c0fbcf, 0xe9b5dba5, 0x3956c25b, 0x59f111f1, 0x923f82a4, 0xab1c5ed5, 0xd807aa98, 0x12835b01, 0x243185be, 0x550c7dc3, 0x72be5d74, 0x80deb1fe, 0x9bdc06a7, 0xc19bf174,
  0xe49b69c1, 0xefbe4786, 0x0fc19dc6, 0x240ca1cc, 0x2de92c6f, 0x4a7484aa, 0x5cb0a9dc, 0x76f988da, 0x983e5152, 0xa831c66d, 0xb00327c8, 0xbf597fc7, 0xc6e00bf3, 0xd5a79147, 0x06ca6351, 0x14292967,
  0x27b70a85, 0x2e1b2138, 0x4d2c6dfc, 0x53380d13, 0x650a7354, 0x766a0abb, 0x81c2c92e, 0x92722c85, 0xa2bfe8a1, 0xa81a664b, 0xc24b8b70, 0xc76c51a3, 0xd192e819, 0xd6990624, 0xf40e3585, 0x106aa070,
  0x19a4c116, 0x1e376c08, 0x2748774c, 0x34b0bcb5, 0x391c0cb3, 0x4ed8aa4a, 0x5b9cca4f, 0x682e6ff3, 0x748f82ee, 0x78a5636f, 0x84c87814, 0x8cc70208, 0x90befffa, 0xa4506ceb, 0xbef9a3f7, 0xc67178f2]
theorem shK_len : shK.length = 64 := rfl
def shI : S8 := ⟨0x6a09e667, 0xbb67ae85, 0x3c6ef372, 0xa54ff53a, 0x510e527f, 0x9b05688c, 0x1f83d9ab, 0x5be0cd19⟩
/-- the first t rounds -/
def rnds (ks ws : List UInt32) (s : S8) : Nat → S8
  | 0 => s
  | t + 1 => rnd (rnds ks ws s t) (ks.getD t 0) (ws.getD t 0)
/-- the words of a block -/
def schB (b : List UInt8) : List UInt32 := sched (wordsB b 16) 48
theorem schB_len (b : List UInt8) : (schB b).length = 64 := by unfold schB; rw [sched_len, wordsB_len]
theorem schB_get0 (b : List UInt8) {i : Nat} (h : i < 16) : (schB b)[i]? = some (wordB b i) := by
  unfold schB
  rw [sched_get (n := 0) _ (by omega) (by rw [wordsB_len]; omega)]
  simp only [sched, wordsB]
  rw [List.getElem?_map, List.getElem?_range h]
  rfl
theorem schB_next (b : List UInt8) {n : Nat} (h : n < 48) : (schB b)[16 + n]? = some (sg1 ((schB b).getD (n + 14) 0) + (schB b).getD (n + 9) 0 + sg0 ((schB b).getD (n + 1) 0) + (schB b).getD n 0) := sched_next _ (wordsB_len b 16) h
def shBlock (s : S8) (b : List UInt8) : S8 := s.add (rnds shK (schB b) s 64)
/-- the first n blocks of a message -/
def shFold (s : S8) (m : List UInt8) : Nat → S8
  | 0 => s
  | n + 1 => shBlock (shFold s m n) ((m.drop (64 * n)).take 64)
theorem shFold_app (s : S8) (m r : List UInt8) : ∀ n, 64 * n ≤ m.length → shFold s (m ++ r) n = shFold s m n
  | 0, _ => rfl
  | n + 1, h => by
    simp only [shFold]
    rw [shFold_app s m r n (by omega), List.drop_append_of_le_length (by omega), List.take_append_of_le_length (by rw [List.length_drop]; omega)]
/-- the state of a hash that has taken m -/
def shSt (m : List UInt8) : S8 := shFold shI m (m.length / 64)
def shRest (m : List UInt8) : List UInt8 := m.drop (64 * (m.length / 64))
theorem shRest_len (m : List UInt8) : (shRest m).length = m.length % 64 := by unfold shRest; rw [List.length_drop]; omega
/-- the number as n bytes, the most significant one first -/
def beN (v : Nat) : Nat → List UInt8
  | 0 => []
  | n + 1 => UInt8.ofNat (v / 256 ^ n) :: beN v n
def padZ (n : Nat) : Nat := (119 - n % 64) % 64
def shPad (n : Nat) : List UInt8 := [128] ++ List.replicate (padZ n) 0 ++ beN (n * 8) 8
theorem beN_len (v : Nat) : ∀ n, (beN v n).length = n
  | 0 => rfl
  | n + 1 => by simp [beN, beN_len v n]
theorem shPad_len (n : Nat) : (n + (shPad n).length) % 64 = 0 ∧ (shPad n).length ≤ 72 := by
  unfold shPad padZ
  simp only [List.length_append, List.length_replicate, beN_len, List.length_cons, List.length_nil]
  omega
def shOut (s : S8) : List UInt8 := (List.range 32).map fun i => ((s.l.getD (i / 4) 0) >>> UInt32.ofNat (24 - i % 4 * 8)).toUInt8
def sha (m : List UInt8) : List UInt8 := shOut (shSt (m ++ shPad m.length))
theorem shOut_len (s : S8) : (shOut s).length = 32 := by simp [shOut]
theorem sha_len (m : List UInt8) : (sha m).length = 32 := shOut_len _
theorem shFold_st (m r : List UInt8) : shFold shI (m ++ r) (m.length / 64) = shSt m := shFold_app _ _ _ _ (by omega)
theorem shRest_app (m r : List UInt8) : (m ++ r).drop (64 * (m.length / 64)) = shRest m ++ r := List.drop_append_of_le_length (by omega)
theorem sh_stop {m : List UInt8} {k : Nat} (h1 : 64 * k ≤ m.length) (h2 : ¬ 64 ≤ (m.drop (64 * k)).length) : k = m.length / 64 := by
  rw [List.length_drop] at h2; omega
theorem sh_drop (m : List UInt8) (k : Nat) : m.drop (64 * (k + 1)) = (m.drop (64 * k)).drop 64 := by rw [List.drop_drop, Nat.mul_add, Nat.mul_one]
theorem beN_get (v : Nat) : ∀ (n y : Nat), y < n → (beN v n)[y]? = some (UInt8.ofNat (v / 256 ^ (n - 1 - y)))
  | n + 1, 0, _ => by simp [beN]
  | n + 1, y + 1, h => by
    simp only [beN, List.getElem?_cons_succ]
    rw [beN_get v n y (by omega), show n + 1 - 1 - (y + 1) = n - 1 - y by omega]
theorem shOut_get (s : S8) {i : Nat} (h : i < 32) : (shOut s)[i]? = some ((s.l.getD (i / 4) 0) >>> UInt32.ofNat (24 - i % 4 * 8)).toUInt8 := by
  unfold shOut
  rw [List.getElem?_map, List.getElem?_range h]
  rfl
theorem take_snoc {α : Type} {l : List α} {i : Nat} {x : α} (h : l[i]? = some x) : l.take (i + 1) = l.take i ++ [x] := by rw [List.take_add_one, h]; rfl
theorem shSt_nil : shSt [] = shI := rfl
/-! ### The program's formulas -/
theorem wEq {a b : UInt32} (h : ∀ i, i < 32 → a.toBitVec.getLsbD i = b.toBitVec.getLsbD i) : a = b := UInt32.toBitVec_inj.1 (BitVec.eq_of_getLsbD_eq h)
theorem ch_eq (e f g : UInt32) : g ^^^ (e &&& (f ^^^ g)) = shCh e f g := by
  refine wEq fun i hi => ?_
  simp only [shCh, UInt32.toBitVec_xor, UInt32.toBitVec_and, UInt32.toBitVec_not, BitVec.getLsbD_xor, BitVec.getLsbD_and, BitVec.getLsbD_not, hi, decide_true, Bool.true_and]
  cases e.toBitVec.getLsbD i <;> cases f.toBitVec.getLsbD i <;> cases g.toBitVec.getLsbD i <;> rfl
theorem maj_eq (a b c : UInt32) : (a &&& b) ||| (c &&& (a ||| b)) = shMaj a b c := by
  refine wEq fun i hi => ?_
  simp only [shMaj, UInt32.toBitVec_xor, UInt32.toBitVec_and, UInt32.toBitVec_or, BitVec.getLsbD_xor, BitVec.getLsbD_and, BitVec.getLsbD_or]
  cases a.toBitVec.getLsbD i <;> cases b.toBitVec.getLsbD i <;> cases c.toBitVec.getLsbD i <;> rfl
theorem t1_eq (v : S8) (k w : UInt32) : v.h + su1 v.e + (v.g ^^^ (v.e &&& (v.f ^^^ v.g))) + k + w = shT1 v k w := by rw [ch_eq]; rfl
theorem t2_eq (v : S8) : su0 v.a + ((v.a &&& v.b) ||| (v.c &&& (v.a ||| v.b))) = shT2 v := by rw [maj_eq]; rfl
theorem ring_eq (a b c d : UInt32) : a + (b + c + d) = d + c + b + a := by
  rw [UInt32.add_comm a, UInt32.add_comm (b + c) d, UInt32.add_comm b c, ← UInt32.add_assoc]
theorem S8.add_get (s t : S8) (i : Nat) (h : i < 8) : (s.add t).l[i]? = some (s.l.getD i 0 + t.l.getD i 0) := by
  match i, h with
  | 0, _ | 1, _ | 2, _ | 3, _ | 4, _ | 5, _ | 6, _ | 7, _ => rfl
/-- the ring of the last 16 words, ahead of round t -/
structure Ring (r ws : List UInt32) (t : Nat) : Prop where
  len : r.length = 16
  get : ∀ i, i < 64 → t ≤ i + 16 → (i < t ∨ i < 16) → r[i % 16]? = ws[i]?
theorem Ring.start (b : List UInt8) : Ring (wordsB b 16) (schB b) 0 := ⟨wordsB_len _ _, fun i h0 h1 h2 => by
  have : i < 16 := by omega
  rw [schB_get0 b this, Nat.mod_eq_of_lt this]
  simp only [wordsB]
  rw [List.getElem?_map, List.getElem?_range this]
  rfl⟩
theorem Ring.next0 {r ws : List UInt32} {t : Nat} (h : Ring r ws t) (ht : t < 16) : Ring r ws (t + 1) := ⟨h.len, fun i h0 h1 h2 => h.get i h0 (by omega) (by omega)⟩
theorem Ring.next1 {r ws : List UInt32} {t : Nat} {x : UInt32} (h : Ring r ws t) (h16 : 16 ≤ t) (ht : t < 64) (hx : ws[t]? = some x) : Ring (r.set (t % 16) x) ws (t + 1) := ⟨by rw [List.length_set]; exact h.len, fun i h0 h1 h2 => by
  rw [List.getElem?_set]
  by_cases e : t % 16 = i % 16
  · have : t = i := by omega
    subst this
    rw [if_pos rfl, if_pos (by rw [h.len]; omega), hx]
  · rw [if_neg e]
    exact h.get i h0 (by omega) (by omega)⟩
theorem Ring.at {r ws : List UInt32} {t : Nat} (h : Ring r ws t) (hw : ws.length = 64) {i j : Nat} (h0 : i < 64) (h1 : t ≤ i + 16) (h2 : i < t ∨ i < 16) (hj : j = i % 16) : r[j]? = some (ws.getD i 0) := by
  rw [hj, h.get i h0 h1 h2, List.getD_eq_getElem?_getD, List.getElem?_eq_getElem (by omega)]
  rfl
theorem schB_ring (b : List UInt8) {t : Nat} (h16 : 16 ≤ t) (ht : t < 64) : (schB b)[t]? = some ((schB b).getD (t - 16) 0 + (sg0 ((schB b).getD (t - 15) 0) + (schB b).getD (t - 7) 0 + sg1 ((schB b).getD (t - 2) 0))) := by
  have h := schB_next b (n := t - 16) (by omega)
  rw [show 16 + (t - 16) = t by omega, show t - 16 + 14 = t - 2 by omega, show t - 16 + 9 = t - 7 by omega, show t - 16 + 1 = t - 15 by omega] at h
  rw [h, ring_eq]
end Go.Pl
