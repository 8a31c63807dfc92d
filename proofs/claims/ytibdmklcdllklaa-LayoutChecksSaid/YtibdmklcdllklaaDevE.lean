/- Contracts of functions of the program: what each returns. Conditions: the hypotheses of each theorem. -/
import Derived.Test.YtibdmklcdllklaaDevC
set_option linter.unusedVariables false
set_option linter.unusedSimpArgs false
namespace Go.Proofs.Ytibdmklcdllklaa
open Go Go.Cx



theorem o_size (D : Pl.Dv) (m : Nat) (Z : List (Nat × Blk)) (w0 : World) (hZ : OwnZ w0 Z) (hz : DevZ 87 133 5 D m Z) : C Try.prog 35 [.pointer (some ⟨m, 0, none⟩)] w0 fun v w' => v = .int .i64 (D.sz : Int) ∧ Ext No w0 w' := by
  obtain ⟨pb, cb, gb, bb, pc, cc, gc, bc, gm, es, ck, cs, B, rfl, hz⟩ := hz
  exact d_size D m pb cb gb bb pc cc gc bc gm es ck cs B w0 hZ hz

theorem o_sectors (D : Pl.Dv) (m : Nat) (Z : List (Nat × Blk)) (w0 : World) (hZ : OwnZ w0 Z) (hz : DevZ 87 133 5 D m Z) : C Try.prog 16 [.pointer (some ⟨m, 0, none⟩)] w0 fun v w' => v = .int .i64 (D.cnt : Int) ∧ Ext No w0 w' := by
  obtain ⟨pb, cb, gb, bb, pc, cc, gc, bc, gm, es, ck, cs, B, rfl, hz⟩ := hz
  exact d_sectors D m pb cb gb bb pc cc gc bc gm es ck cs B w0 hZ hz

theorem o_disk (D : Pl.Dv) (m : Nat) (Z : List (Nat × Blk)) (w0 : World) (hZ : OwnZ w0 Z) (hz : DevZ 87 133 5 D m Z) : C Try.prog 18 [.pointer (some ⟨m, 0, none⟩)] w0 fun v w' => ∃ q c g b, v = .slice q D.dk.length c ∧ Acc 5 1 q (D.dk).length c ((D.dk).flatMap encB) g b ∧ Mem w0 w' No [(g, b)] := by
  obtain ⟨pb, cb, gb, bb, pc, cc, gc, bc, gm, es, ck, cs, B, rfl, hz⟩ := hz
  exact d_disk D m pb cb gb bb pc cc gc bc gm es ck cs B w0 hZ hz

theorem o_read (D : Pl.Dv) (m : Nat) (Z : List (Nat × Blk)) (w0 : World) (hZ : OwnZ w0 Z) (hz : DevZ 87 133 5 D m Z) (i : Int) : C Try.prog 52 [.pointer (some ⟨m, 0, none⟩), .int .i64 i] w0 fun v w' => ∃ q c g b, v = .tuple ⟨[.slice q (if Pl.codeAt D i = 0 then Pl.rdS D i else []).length c, .int .i64 (Pl.codeAt D i)]⟩ ∧ Acc 5 1 q ((if Pl.codeAt D i = 0 then Pl.rdS D i else [])).length c (((if Pl.codeAt D i = 0 then Pl.rdS D i else [])).flatMap encB) g b ∧ Mem w0 w' No [(g, b)] := by
  obtain ⟨pb, cb, gb, bb, pc, cc, gc, bc, gm, es, ck, cs, B, rfl, hz⟩ := hz
  exact d_read D m pb cb gb bb pc cc gc bc gm es ck cs B w0 hZ hz i

theorem o_new (x y : Int) (q : Option Addr) (cq : Nat) (ps : List SB) (w0 : World) (hq : Rd w0 q (ps.flatMap encS)) (hps : ∀ s ∈ ps, Rd w0 s.p (s.bs.flatMap encB)) (hl : ps.length ≤ 4611686018427387903) (hb : (ps.flatMap (·.bs)).length ≤ 140737488355328) (BB : List UInt8) (hBB : ps.flatMap (·.bs) = BB) (hr : Pl.right x y BB.length = true) : C Try.prog 19 [.int .i64 x, .int .i64 y, .slice q ps.length cq] w0 fun v w' => ∃ m Z, v = .pointer (some ⟨m, 0, none⟩) ∧ DevZ 87 133 5 (Pl.nDv x.toNat y.toNat BB) m Z ∧ Mem w0 w' No Z := by
  subst hBB
  exact (d_new x y q cq ps w0 hq hps hl hb).mono fun v w' h => by rw [if_pos hr] at h; exact h

theorem o_newF (x y : Int) (q : Option Addr) (cq : Nat) (ps : List SB) (w0 : World) (hq : Rd w0 q (ps.flatMap encS)) (hps : ∀ s ∈ ps, Rd w0 s.p (s.bs.flatMap encB)) (hl : ps.length ≤ 4611686018427387903) (hb : (ps.flatMap (·.bs)).length ≤ 140737488355328) (hr : Pl.right x y (ps.flatMap (·.bs)).length = false) : C Try.prog 19 [.int .i64 x, .int .i64 y, .slice q ps.length cq] w0 fun v w' => v = .pointer none ∧ Ext No w0 w' := (d_new x y q cq ps w0 hq hps hl hb).mono fun v w' h => by rw [if_neg (by rw [hr]; decide)] at h; exact h

end Go.Proofs.Ytibdmklcdllklaa
