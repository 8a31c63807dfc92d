/- Deltas as cells. No condition. -/
import Derived.Test.YtaehgpeenaomcaaGreatPlP
import Derived.Test.YtaehgpeenaomcaaGreatBs2
namespace Go.Cx
set_option linter.unusedVariables false
/-- a delta: the two lengths, the bytes of the two digests, the commands -/
def dlV (o n : Int) (H : Nat → UInt8) (p : Option Addr) (len cap : Nat) : List Value := [.int .i64 o, .int .i64 n, .int .u8 ((H 0).toNat : Int), .int .u8 ((H 1).toNat : Int), .int .u8 ((H 2).toNat : Int), .int .u8 ((H 3).toNat : Int), .int .u8 ((H 4).toNat : Int), .int .u8 ((H 5).toNat : Int), .int .u8 ((H 6).toNat : Int), .int .u8 ((H 7).toNat : Int), .int .u8 ((H 8).toNat : Int), .int .u8 ((H 9).toNat : Int), .int .u8 ((H 10).toNat : Int), .int .u8 ((H 11).toNat : Int), .int .u8 ((H 12).toNat : Int), .int .u8 ((H 13).toNat : Int), .int .u8 ((H 14).toNat : Int), .int .u8 ((H 15).toNat : Int), .int .u8 ((H 16).toNat : Int), .int .u8 ((H 17).toNat : Int), .int .u8 ((H 18).toNat : Int), .int .u8 ((H 19).toNat : Int), .int .u8 ((H 20).toNat : Int), .int .u8 ((H 21).toNat : Int), .int .u8 ((H 22).toNat : Int), .int .u8 ((H 23).toNat : Int), .int .u8 ((H 24).toNat : Int), .int .u8 ((H 25).toNat : Int), .int .u8 ((H 26).toNat : Int), .int .u8 ((H 27).toNat : Int), .int .u8 ((H 28).toNat : Int), .int .u8 ((H 29).toNat : Int), .int .u8 ((H 30).toNat : Int), .int .u8 ((H 31).toNat : Int), .int .u8 ((H 32).toNat : Int), .int .u8 ((H 33).toNat : Int), .int .u8 ((H 34).toNat : Int), .int .u8 ((H 35).toNat : Int), .int .u8 ((H 36).toNat : Int), .int .u8 ((H 37).toNat : Int), .int .u8 ((H 38).toNat : Int), .int .u8 ((H 39).toNat : Int), .int .u8 ((H 40).toNat : Int), .int .u8 ((H 41).toNat : Int), .int .u8 ((H 42).toNat : Int), .int .u8 ((H 43).toNat : Int), .int .u8 ((H 44).toNat : Int), .int .u8 ((H 45).toNat : Int), .int .u8 ((H 46).toNat : Int), .int .u8 ((H 47).toNat : Int), .int .u8 ((H 48).toNat : Int), .int .u8 ((H 49).toNat : Int), .int .u8 ((H 50).toNat : Int), .int .u8 ((H 51).toNat : Int), .int .u8 ((H 52).toNat : Int), .int .u8 ((H 53).toNat : Int), .int .u8 ((H 54).toNat : Int), .int .u8 ((H 55).toNat : Int), .int .u8 ((H 56).toNat : Int), .int .u8 ((H 57).toNat : Int), .int .u8 ((H 58).toNat : Int), .int .u8 ((H 59).toNat : Int), .int .u8 ((H 60).toNat : Int), .int .u8 ((H 61).toNat : Int), .int .u8 ((H 62).toNat : Int), .int .u8 ((H 63).toNat : Int), .slice p len cap]
theorem cmsGet {cs : List CmdV} {k : Nat} {c : CmdV} (h : cs[k]? = some c) : (cs.map CmdV.cm)[k]? = some c.cm := by rw [List.getElem?_map, h]; rfl
theorem cmsOf {cs : List CmdV} {k : Nat} {d : Pl.Cm} (h : (cs.map CmdV.cm)[k]? = some d) : ∃ c, cs[k]? = some c ∧ c.cm = d := by
  rw [List.getElem?_map] at h
  exact Option.map_eq_some_iff.1 h
theorem cmsAll {cs : List CmdV} {p : Pl.Cm → Prop} (h : ∀ (j : Nat) c, j < cs.length → cs[j]? = some c → p c.cm) : ∀ d ∈ cs.map CmdV.cm, p d := fun d hd => by
  obtain ⟨c, hc, rfl⟩ := List.mem_map.1 hd
  obtain ⟨j, hj, e⟩ := List.getElem_of_mem hc
  exact h j c hj (by rw [← e]; exact List.getElem?_eq_getElem hj)
theorem oneE : ∀ xs : List (Int × Int), (xs.flatMap encE).all (·.oneCell') = true
  | [] => rfl
  | x :: r => by rw [List.flatMap_cons, List.all_append, oneE r]; rfl
theorem lenE (xs : List (Int × Int)) : (xs.flatMap encE).length = xs.length * 2 := fm_length encE_len xs
theorem repl_next (f : List UInt8) (k : Nat) : f ++ List.replicate (k + 1) (0 : UInt8) = (f ++ List.replicate k 0) ++ [0] := by rw [List.replicate_succ', List.append_assoc]
theorem okC.mono {w w' : World} {c : CmdV} (h : okC w c) (hx : Ext No w w') : okC w' c := ⟨h.1, h.2.1, h.2.2.1, h.2.2.2.1, h.2.2.2.2.ext hx⟩
end Go.Cx
