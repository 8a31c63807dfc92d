/- Openers of a law's arguments: deltas. No condition. -/
import Derived.Test.YtaehgpeenaomcaaGreatRow
import Derived.Test.YtaehgpeenaomcaaGreatCyK
namespace Go.Row
set_option linter.unusedVariables false
set_option linter.unusedSimpArgs false
open Go Go.Cx Go.ChangeShapes Go.WideShapes Go.RowKit
variable {H : Type} {enc : TypeId × Value → H} {P : Program} {W : World} {base : Nat} {held : Bool}
theorem wf_u8' {n : Int} (h : (Lit.int .u8 n).wf = true) : 0 ≤ n ∧ n ≤ 255 := by
  simpa [Lit.wf, IntKind.min, IntKind.max, IntKind.signed, IntKind.bits] using h
theorem b32 {bs : List UInt8} (h : bs.length = 32) : bs.flatMap encB = [.int .u8 ((bs.getD 0 0).toNat : Int), .int .u8 ((bs.getD 1 0).toNat : Int), .int .u8 ((bs.getD 2 0).toNat : Int), .int .u8 ((bs.getD 3 0).toNat : Int), .int .u8 ((bs.getD 4 0).toNat : Int), .int .u8 ((bs.getD 5 0).toNat : Int), .int .u8 ((bs.getD 6 0).toNat : Int), .int .u8 ((bs.getD 7 0).toNat : Int), .int .u8 ((bs.getD 8 0).toNat : Int), .int .u8 ((bs.getD 9 0).toNat : Int), .int .u8 ((bs.getD 10 0).toNat : Int), .int .u8 ((bs.getD 11 0).toNat : Int), .int .u8 ((bs.getD 12 0).toNat : Int), .int .u8 ((bs.getD 13 0).toNat : Int), .int .u8 ((bs.getD 14 0).toNat : Int), .int .u8 ((bs.getD 15 0).toNat : Int), .int .u8 ((bs.getD 16 0).toNat : Int), .int .u8 ((bs.getD 17 0).toNat : Int), .int .u8 ((bs.getD 18 0).toNat : Int), .int .u8 ((bs.getD 19 0).toNat : Int), .int .u8 ((bs.getD 20 0).toNat : Int), .int .u8 ((bs.getD 21 0).toNat : Int), .int .u8 ((bs.getD 22 0).toNat : Int), .int .u8 ((bs.getD 23 0).toNat : Int), .int .u8 ((bs.getD 24 0).toNat : Int), .int .u8 ((bs.getD 25 0).toNat : Int), .int .u8 ((bs.getD 26 0).toNat : Int), .int .u8 ((bs.getD 27 0).toNat : Int), .int .u8 ((bs.getD 28 0).toNat : Int), .int .u8 ((bs.getD 29 0).toNat : Int), .int .u8 ((bs.getD 30 0).toNat : Int), .int .u8 ((bs.getD 31 0).toNat : Int)] := by
  match bs, h with
  | [a0, a1, a2, a3, a4, a5, a6, a7, a8, a9, a10, a11, a12, a13, a14, a15, a16, a17, a18, a19, a20, a21, a22, a23, a24, a25, a26, a27, a28, a29, a30, a31], _ => rfl
def dlS (P : Program) (t : TypeId) : Bool := match P.underlying t with
  | some (.struct fs) => match fs.toList with
    | [f0, f1, f2, f3, f4] => f0.offset == 0 && f1.offset == 1 && f2.offset == 2 && f3.offset == 34 && f4.offset == 66 && P.cellsOf f0.type == 1 && P.cellsOf f1.type == 1 && P.cellsOf f2.type == 32 && P.cellsOf f3.type == 32 && P.cellsOf f4.type == 1 && P.cellsOf t == 67 &&
      intT P f0.type == some .i64 && intT P f1.type == some .i64 && arrB P f2.type 32 && arrB P f3.type 32 && slC P f4.type
    | _ => false
  | _ => false
theorem cut1 {α : Type} {l : List α} {i : Nat} (h : i < l.length) : (l.drop i).take 1 = [l[i]] := by rw [List.drop_eq_getElem_cons h]; rfl
theorem cutN {α : Type} (l : List α) (i k : Nat) : l.drop i = (l.drop i).take k ++ l.drop (i + k) := by rw [← List.drop_drop, List.take_append_drop]
theorem open_dl {t : TypeId} {r : Reach} {b0 : Nat} {v : Value} {d : DataW H} {p : List MemPlace} (h : dlS P t = true) (hv : Value.okWide P W r b0 t v) (hd : DataW.Trod enc P W base (fun _ => true) held t v d p) :
    ∃ (o n : Int) (B : Nat → UInt8) (q : Option Addr) (cap : Nat) (xs : List CmdV), v = .agg ⟨dlV o n B q xs.length cap⟩ ∧ Pl.I64 o ∧ Pl.I64 n ∧ Rd W q (xs.flatMap encC) ∧ (∀ x, x ∈ xs → okC W x) ∧ xs.length ≤ cap ∧ cap ≤ 9223372036854775807 := by
  unfold dlS at h
  split at h
  · rename_i fs hu
    split at h
    · rename_i f0 f1 f2 f3 f4 hfs
      simp only [Bool.and_eq_true, beq_iff_eq] at h
      obtain ⟨⟨⟨⟨⟨⟨⟨⟨⟨⟨⟨⟨⟨⟨⟨o0, o1⟩, o2⟩, o3⟩, o4⟩, c0⟩, c1⟩, c2⟩, c3⟩, c4⟩, ct⟩, t0⟩, t1⟩, t2⟩, t3⟩, t4⟩ := h
      obtain ⟨cs, rfl, _⟩ := okWide_struct hu hv
      obtain ⟨l⟩ := cs
      obtain ⟨m, hd⟩ := hd
      obtain ⟨ys, m', rfl, _, hl, hyl, hi⟩ := DataW.trod_struct hu hd
      have hsz : fs.size = 5 := by rw [← Array.length_toList, hfs]; rfl
      rw [ct] at hl
      change l.length = 67 at hl
      have hg : ∀ (i : Nat) f, [f0, f1, f2, f3, f4][i]? = some f → fs[i]? = some f := fun i f hf => by rw [← Array.getElem?_toList, hfs]; exact hf
      have hy : ∀ i, i < 5 → ∃ y, ys[i]? = some y := fun i h5 => ⟨_, List.getElem?_eq_getElem (by omega)⟩
      obtain ⟨y0, g0⟩ := hy 0 (by omega)
      obtain ⟨y1, g1⟩ := hy 1 (by omega)
      obtain ⟨y2, g2⟩ := hy 2 (by omega)
      obtain ⟨y3, g3⟩ := hy 3 (by omega)
      obtain ⟨y4, g4⟩ := hy 4 (by omega)
      have h0 := hi 0 f0 (hg 0 f0 rfl)
      have h1 := hi 1 f1 (hg 1 f1 rfl)
      have h2 := hi 2 f2 (hg 2 f2 rfl)
      have h3 := hi 3 f3 (hg 3 f3 rfl)
      have h4 := hi 4 f4 (hg 4 f4 rfl)
      rw [o0, c0, g0] at h0
      rw [o1, c1, g1] at h1
      rw [o2, c2, g2] at h2
      rw [o3, c3, g3] at h3
      rw [o4, c4, g4] at h4
      simp only [Value.cells] at h0 h1 h2 h3 h4
      have e0 := cutN l 0 1
      have e1 := cutN l 1 1
      have e2 := cutN l 2 32
      have e3 := cutN l 34 32
      have e4 := cutN l 66 1
      have e5 : l.drop 67 = [] := List.drop_eq_nil_of_le (by omega)
      rw [cut1 (by omega)] at h0 h1 h4 e0 e1 e4
      obtain ⟨x0, k0, w0, _⟩ := trod_i t0 h0
      obtain ⟨x1, k1, w1, _⟩ := trod_i t1 h1
      obtain ⟨b2, k2, n2⟩ := trod_ab t2 h2
      obtain ⟨b3, k3, n3⟩ := trod_ab t3 h3
      unfold slC at t4
      split at t4
      · rename_i e hu4
        simp only [Bool.and_eq_true, beq_iff_eq] at t4
        obtain ⟨q, cap, xs, k4, hR, hok, hlc, hcc, _⟩ := trod_slS encC (Q := okC W) hu4 t4.1 (fun n cs y hl hx => trod_cmd t4.2 hx) h4
        have hL : l = dlV x0 x1 (fun i => if i < 32 then b2.getD i 0 else b3.getD (i - 32) 0) q xs.length cap := by
          have e6 : l = l.drop 0 := rfl
          rw [e6, e0, e1, e2, e3, e4, e5, k0, k1, k2, k3, k4, b32 n2, b32 n3]
          rfl
        subst hL
        exact ⟨x0, x1, _, q, cap, xs, rfl, wf_i64 w0, wf_i64 w1, hR, hok, hlc, hcc⟩
      · cases t4
    · cases h
  · cases h
end Go.Row
