/- How extents, bytes and their like lie in memory. -/
import Derived.Test.YtlgkhajmjgepaaaCxL
import Derived.Test.YtlgkhajmjgepaaaPlD
namespace Go.Cx
set_option linter.unusedVariables false
set_option linter.unusedSimpArgs false
open Go

def encE (e : Int × Int) : List Value := [.int .i64 e.1, .int .i64 e.2]
theorem encE_len (e : Int × Int) : (encE e).length = 2 := rfl
def exV (o : Option (Int × Int)) : List Value := [.int .i64 (o.getD (0, 0)).1, .int .i64 (o.getD (0, 0)).2]
theorem exV_some (e : Int × Int) : exV (some e) = encE e := rfl
theorem exV_none : exV none = [.int .i64 0, .int .i64 0] := rfl
theorem nx (k : Nat) : (some (Value.int .i64 ((k : Int) + 1))) = some (.int .i64 ((k + 1 : Nat) : Int)) := by simp
theorem tdivw {x s : Int} (h1 : 0 ≤ x) (h2 : x ≤ 9223372036854775807) (hs : 1 ≤ s) : IntKind.i64.wrap (x.tdiv s) = x / s := by
  rw [Int.tdiv_eq_ediv_of_nonneg h1]
  have h3 : 0 ≤ x / s := Int.ediv_nonneg h1 (by omega)
  have h4 : x / s ≤ x := Int.ediv_le_self s h1
  exact i64w (by omega) (by omega)
theorem row_set {w : World} {m : Nat} {e : TypeId} {l l' : List Value} (h : w.heap[m]? = some (Blk.row e l).toObj) : (w.setRow m ⟨l'⟩).heap[m]? = some (Blk.row e l').toObj := setRow_heap w m ⟨l⟩ ⟨l'⟩ e (0, 0) h
def encI (x : Int) : List Value := [.int .i64 x]
theorem encI_len (x : Int) : (encI x).length = 1 := rfl
/-- a layout's cells -/
def layV (s b o n : Int) : List Value := [.int .i64 (Pl.lz (Pl.layE s b o n) s), .int .i64 (Pl.lz (Pl.layE s b o n) b), .int .i64 0, .int .i64 (Pl.lz (Pl.layE s b o n) (max o n)),
  .int .i64 (Pl.lz (Pl.layE s b o n) (Pl.layF s o n)), .int .i64 (Pl.lz (Pl.layE s b o n) (2 * Pl.slot s b)), .int .i64 (Pl.lz (Pl.layE s b o n) (Pl.layF s o n + 2 * Pl.slot s b))]
/-- a reader's cells -/
def rdV (p : Option Addr) (n cap : Nat) (s : Pl.RS) : List Value := [.slice p n cap, .int .i64 s.at_, .int .i64 s.code, .int .i64 s.fat]
/-- what a take hands back -/
def tkV (p : Option Addr) (cap a : Nat) (n : Int) (ok : Bool) : Value := bif ok then .slice (slp p cap a 1) n.toNat (cap - a) else .slice none 0 0
def encF (f : Int × Int) : List Value := [.int .u64 f.1, .int .i64 f.2]
theorem encF_len (f : Int × Int) : (encF f).length = 2 := rfl
theorem or8 {y c : Int} (hy : 0 ≤ y ∧ y < 18446744073709551616 ∧ y % 256 = 0) (hc : 0 ≤ c ∧ c < 256) : IntKind.u64.wrap (BitVec.ofInt IntKind.u64.bits y ||| BitVec.ofInt IntKind.u64.bits c).toNat = y + c := by
  have hb : IntKind.u64.bits = 64 := rfl
  obtain ⟨q, hq⟩ : ∃ q : Nat, y = ((2 ^ 8 * q : Nat) : Int) := ⟨(y / 256).toNat, by omega⟩
  obtain ⟨d, hd⟩ : ∃ d : Nat, c = (d : Int) := ⟨c.toNat, by omega⟩
  subst hq hd
  have h1 : (BitVec.ofInt IntKind.u64.bits ((2 ^ 8 * q : Nat) : Int) ||| BitVec.ofInt IntKind.u64.bits (d : Int)).toNat = 2 ^ 8 * q + d := by
    rw [BitVec.toNat_or, BitVec.toNat_ofInt, BitVec.toNat_ofInt]
    have e1 : (((2 ^ 8 * q : Nat) : Int) % (2 ^ IntKind.u64.bits : Nat)).toNat = 2 ^ 8 * q := by rw [hb]; omega
    have e2 : (((d : Nat) : Int) % (2 ^ IntKind.u64.bits : Nat)).toNat = d := by rw [hb]; omega
    rw [e1, e2]
    exact (Nat.two_pow_add_eq_or_of_lt (by omega) q).symm
  rw [h1]
  exact (u64w (by omega) (by omega)).trans (by omega)
theorem shl8 {x : Int} (h : 0 ≤ x ∧ x < 72057594037927936) : IntKind.u64.wrap (x * 2 ^ (min (8 : Int).toNat IntKind.u64.bits)) = x * 256 := by
  have : (2 : Int) ^ (min (8 : Int).toNat IntKind.u64.bits) = 256 := by decide
  rw [this]
  exact u64w (by omega) (by omega)
theorem shrB {v j : Int} {k : Nat} (hv : 0 ≤ v) (hj : j = 8 * k) (hk : k ≤ 8) : IntKind.u8.wrap (v.fdiv (2 ^ (min j.toNat IntKind.u64.bits))) = ((Pl.byt v k).toNat : Int) := by
  have e : IntKind.u64.bits = 64 := rfl
  rw [e, Pl.shr8 hv hj hk, Pl.byt_val]
  simp [IntKind.wrap, IntKind.signed, IntKind.bits]
theorem nx1 (j : Nat) (h : 0 < j) : some (Value.int .i64 ((j : Int) - 1 - 1)) = some (.int .i64 (((j - 1 : Nat) : Int) - 1)) := by congr 2; omega
/-- a slice of bytes that came in -/
structure SB where
  p : Option Addr
  cap : Nat
  bs : List UInt8
def SB.v (s : SB) : Value := .slice s.p s.bs.length s.cap
structure SB.ok (W : World) (s : SB) : Prop where
  rd : Rd W s.p (s.bs.flatMap encB)
  le : s.bs.length ≤ s.cap
  spot : s.cap ≠ 0 → ∀ ad, s.p = some ad → ad.spot = none
  max : s.cap ≤ 9223372036854775807
/-- two numbers and bytes -/
structure OpV where
  k : Int
  n : Int
  d : SB
def encO (o : OpV) : List Value := [.int .i64 o.k, .int .i64 o.n, .slice o.d.p o.d.bs.length o.d.cap]
theorem encO_len (o : OpV) : (encO o).length = 3 := rfl
def okO (W : World) (o : OpV) : Prop := Pl.I64 o.k ∧ Pl.I64 o.n ∧ o.d.ok W
def encS (s : SB) : List Value := [.slice s.p s.bs.length s.cap]
theorem encS_len (s : SB) : (encS s).length = 1 := rfl
/-- a command -/
structure CmdV where
  k : Int
  to : Int
  fr : Int
  ln : Int
  d : SB
def encC (c : CmdV) : List Value := [.int .i64 c.k, .int .i64 c.to, .int .i64 c.fr, .int .i64 c.ln, .slice c.d.p c.d.bs.length c.d.cap]
theorem encC_len (c : CmdV) : (encC c).length = 5 := rfl
def okC (W : World) (c : CmdV) : Prop := Pl.I64 c.k ∧ Pl.I64 c.to ∧ Pl.I64 c.fr ∧ Pl.I64 c.ln ∧ c.d.ok W
/-- a command's cells -/
def cmV (c : Pl.Cm) (p : Option Addr) (n cap : Nat) : List Value := [.int .i64 c.k, .int .i64 c.to, .int .i64 c.fr, .int .i64 c.ln, .slice p n cap]
def CmdV.cm (c : CmdV) : Pl.Cm := ⟨c.k, c.to, c.fr, c.ln, c.d.bs⟩
theorem encC_cm (c : CmdV) : encC c = cmV c.cm c.d.p c.d.bs.length c.d.cap := rfl
theorem okC.cm {W : World} {c : CmdV} (h : okC W c) : Pl.okCm c.cm := ⟨h.1, h.2.1, h.2.2.1, h.2.2.2.1⟩
theorem Acc.cut0 {e es n cap g : Nat} {b : Blk} {p : Option Addr} {cells : List Value} (h : Acc e es p n cap cells g b) : Acc e es p 0 cap [] g b := by
  refine ⟨by simp, ?_⟩
  rcases h.cases' with ⟨h1, h2, h3⟩ | ⟨l, h1, h2, h3, h4, h5⟩
  · exact .inl ⟨rfl, h2, h3⟩
  · exact .inr ⟨l, h1, h2, Nat.zero_le _, h4, by simp⟩
theorem fmTake {α : Type} (f : α → List UInt8) (ps : List α) (k : Nat) : ((ps.take k).flatMap f).length ≤ (ps.flatMap f).length := by
  have e : ps.flatMap f = (ps.take k).flatMap f ++ (ps.drop k).flatMap f := by rw [← List.flatMap_append, List.take_append_drop]
  rw [e, List.length_append]
  omega
theorem SB.ok.ext {w w' : World} {s : SB} (h : s.ok w) (hx : Ext No w w') : s.ok w' := ⟨h.rd.ext0 hx, h.le, h.spot, h.max⟩
end Go.Cx
