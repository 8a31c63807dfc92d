/- Plain law of the reference's decoding of records: it reads the same as the program's. No condition. -/
import Derived.Test.YthailbggeafckaaGreatPlM
namespace Go.Pl
set_option linter.unusedVariables false
set_option linter.unusedSimpArgs false
def AtK (k : Nat) (s : RS) : Prop := (s.code ≠ 0 ∨ s.at_ = k) ∧ (s.code = 0 → s.fat = 0)
theorem rtake_bdO {len : Nat} {s : RS} {n : Int} (h : s.code ≠ 0) : rtake len s n = (s, false) := by unfold rtake; rw [if_pos h]
theorem fail_bad {s : RS} {c a : Int} (h : s.code ≠ 0) : s.fail c a = s := by unfold RS.fail; rw [if_neg (fun e => h e.1)]
theorem fail_AtK {s : RS} {c a : Int} (hc : c ≠ 0) : (s.fail c a).code ≠ 0 := by
  unfold RS.fail
  split
  · exact hc
  · rename_i h; intro e; exact h ⟨e, hc⟩
theorem ruint_bdO {bs : List UInt8} {s : RS} {n : Int} (h : s.code ≠ 0) : ruint bs s n = (s, 0) := by unfold ruint; rw [rtake_bdO h]; rfl
theorem rlength_bdO {bs : List UInt8} {s : RS} (h : s.code ≠ 0) : rlength bs s = (s, 0) := by
  unfold rlength
  rw [ruint_bdO h, if_neg (show ¬ (0 : Int) > 4611686018427387903 by decide)]
theorem ruint_loc {bs : List UInt8} {s : RS} {n : Int} {k : Nat} (hs : AtK k s) (hn : 1 ≤ n ∧ n ≤ 8) (hk : (k : Int) + n ≤ 40) (hl : 40 ≤ bs.length) : ruint (bs.take 40) s n = ruint bs s n ∧ AtK (k + n.toNat) (ruint bs s n).1 := by
  by_cases hc : s.code ≠ 0
  · rw [ruint_bdO hc, ruint_bdO hc]
    exact ⟨rfl, .inl hc, hs.2⟩
  · have hat := hs.1.resolve_left hc
    have hu : usize n = n := by unfold usize; rw [if_neg (by omega)]
    have h4 : (bs.take 40).length = 40 := by rw [List.length_take]; omega
    have t1 : rtake (bs.take 40).length s (usize n) = ({ s with at_ := s.at_ + n.toNat }, true) := by unfold rtake; rw [hu, if_neg hc, if_neg (by omega), if_neg (by omega)]
    have t2 : rtake bs.length s (usize n) = ({ s with at_ := s.at_ + n.toNat }, true) := by unfold rtake; rw [hu, if_neg hc, if_neg (by omega), if_neg (by omega)]
    have e : ((bs.take 40).drop s.at_).take (usize n).toNat = (bs.drop s.at_).take (usize n).toNat := by
      rw [List.drop_take, List.take_take, hu, Nat.min_eq_left (by omega)]
    unfold ruint
    rw [t1, t2, e]
    exact ⟨rfl, .inr (by show s.at_ + n.toNat = _; omega), hs.2⟩
theorem rlength_loc {bs : List UInt8} {s : RS} {k : Nat} (hs : AtK k s) (hk : k + 8 ≤ 40) (hl : 40 ≤ bs.length) : rlength (bs.take 40) s = rlength bs s ∧ AtK (k + 8) (rlength bs s).1 := by
  obtain ⟨h1, h2⟩ := ruint_loc (n := 8) hs (by decide) (by omega) hl
  unfold rlength
  rw [h1]
  refine ⟨rfl, ?_⟩
  split
  · exact ⟨.inl (fail_AtK (by decide)), fun h => absurd h (fail_AtK (by decide))⟩
  · exact h2
theorem rexpect_loc {bs : List UInt8} (hl : 40 ≤ bs.length) : rexpect (bs.take 40) ⟨0, 0, 0⟩ magic 19 = rexpect bs ⟨0, 0, 0⟩ magic 19 := by
  have h4 : (bs.take 40).length = 40 := by rw [List.length_take]; omega
  have hm : magic.length = 4 := rfl
  unfold rexpect
  rw [h4]
  simp only [Nat.sub_zero, List.drop_zero]
  rw [hm, Nat.min_eq_left (by omega), Nat.min_eq_left (by omega), List.take_take, Nat.min_eq_left (by decide)]
  have e : ∀ len : Nat, 4 ≤ len → rtake len ⟨0, 0, 0⟩ ((4 : Nat) : Int) = (⟨4, 0, 0⟩, true) := fun len h => by
    unfold rtake
    rw [if_neg (by decide), if_neg (by decide), if_neg (by simp only; omega)]
    rfl
  rw [e 40 (by decide), e bs.length (by omega)]
theorem rexpect_AtK (bs : List UInt8) : AtK 4 (rexpect bs ⟨0, 0, 0⟩ magic 19).1 ∧ ((rexpect bs ⟨0, 0, 0⟩ magic 19).2 = false → (rexpect bs ⟨0, 0, 0⟩ magic 19).1.code ≠ 0) := by
  unfold rexpect
  rw [if_neg (by decide)]
  split
  · exact ⟨⟨.inl (by decide), fun h => by revert h; decide⟩, fun _ => by decide⟩
  · unfold rtake
    rw [if_neg (by decide), if_neg (by decide)]
    split
    · exact ⟨⟨.inl (fail_AtK (by decide)), fun h => absurd h (fail_AtK (by decide))⟩, fun _ => fail_AtK (by decide)⟩
    · exact ⟨⟨.inr rfl, fun _ => rfl⟩, fun h => by cases h⟩
theorem rd5_loc (bs : List UInt8) : rd5 (bs.take 40) = rd5 bs := by
  by_cases hl : 40 ≤ bs.length
  · have e0 := rexpect_loc hl
    have a0 := (rexpect_AtK bs).1
    obtain ⟨e1, a1⟩ := ruint_loc (n := 8) a0 (by decide) (by decide) hl
    obtain ⟨e2, a2⟩ := ruint_loc (n := 8) a1 (by decide) (by decide) hl
    obtain ⟨e3, a3⟩ := rlength_loc a2 (by decide) hl
    obtain ⟨e4, a4⟩ := rlength_loc a3 (by decide) hl
    obtain ⟨e5, a5⟩ := ruint_loc (n := 4) a4 (by decide) (by decide) hl
    unfold rd5
    simp only [e0, e1, e2, e3, e4, e5]
  · rw [List.take_of_length_le (by omega)]
theorem ruint_code {bs : List UInt8} {s : RS} {n : Int} (h : (ruint bs s n).1.code = 0) : s.code = 0 := Decidable.byContradiction fun hc => by rw [ruint_bdO hc] at h; exact hc h
theorem rlength_code {bs : List UInt8} {s : RS} (h : (rlength bs s).1.code = 0) : s.code = 0 := Decidable.byContradiction fun hc => by rw [rlength_bdO hc] at h; exact hc h
theorem fat_uint {bs : List UInt8} {s : RS} {n : Int} (hs : s.code = 0 → s.fat = 0) : (ruint bs s n).1.code = 0 → (ruint bs s n).1.fat = 0 := fun h => by
  have hc := ruint_code h
  rw [ruint_fst] at h ⊢
  unfold rtake at h ⊢
  rw [if_neg (by omega)] at h ⊢
  split at h
  · exact absurd h (fail_AtK (by decide))
  · rename_i h1
    rw [if_neg h1]
    split at h
    · exact absurd h (fail_AtK (by decide))
    · rename_i h2; rw [if_neg h2]; exact hs hc
theorem fat_length {bs : List UInt8} {s : RS} (hs : s.code = 0 → s.fat = 0) : (rlength bs s).1.code = 0 → (rlength bs s).1.fat = 0 := fun h => by
  unfold rlength at h ⊢
  split at h
  · exact absurd h (fail_AtK (by decide))
  · rename_i h1; rw [if_neg h1]; exact fat_uint hs h
/-- when the five numbers are read without an error, so was the mark ahead of them -/
theorem rd5_ok {bs : List UInt8} (h : (rd5 bs).st.code = 0) : (rd5 bs).ok = true ∧ (rd5 bs).st.fat = 0 := by
  have a0 := rexpect_AtK bs
  unfold rd5 at h ⊢
  simp only at h ⊢
  have c1 := ruint_code (ruint_code (rlength_code (rlength_code (ruint_code h))))
  refine ⟨?_, fat_uint (fat_length (fat_length (fat_uint (fat_uint a0.1.2)))) h⟩
  cases ho : (rexpect bs ⟨0, 0, 0⟩ magic 19).2 with
  | true => rfl
  | false => exact absurd c1 (a0.2 ho)
theorem rd5_st {bs : List UInt8} (h : (rd5 bs).st.code = 0) : (rd5 bs).st.at_ = 40 := by
  have h0 := (rd5_ok h).1
  unfold rd5 at h0 h ⊢
  simp only at h0 h ⊢
  obtain ⟨_, e1, _⟩ := rexpect_good h0
  obtain ⟨c5, e6, l6, e7⟩ := ruint_good (by decide) h
  obtain ⟨c4, e5, _⟩ := rlength_good c5
  obtain ⟨c3, e4, _⟩ := rlength_good c4
  obtain ⟨c2, e3, _⟩ := ruint_good (by decide) c3
  obtain ⟨c1, e2, _⟩ := ruint_good (by decide) c2
  rw [e6, e5, e4, e3, e2, e1]; rfl
/-- the reader behind the data, and behind the checksum -/
def rB1 (bs : List UInt8) : RS × Bool := rtake bs.length (rd5 bs).st (rd5 bs).n
def rB2 (bs : List UInt8) : RS × Bool := rtake bs.length (rB1 bs).1 4
def rDat (bs : List UInt8) : List UInt8 := if (rB1 bs).2 = true then (bs.drop (rd5 bs).st.at_).take (rd5 bs).n.toNat else []
theorem rdec_ref (bs : List UInt8) : rdec bs = if (rB2 bs).1.code = 0 ∧ (rd5 bs).n ≤ 1048576 ∧ sumOk (bs.take (rB2 bs).1.at_) = true then some ⟨(rd5 bs).sq, (rd5 bs).id, (rd5 bs).cu, (rd5 bs).of, rDat bs⟩ else none := by
  unfold rdec
  simp only [rd5_loc]
  have hn := rd5_n bs
  by_cases hc : (rd5 bs).st.code = 0
  · obtain ⟨h1, h2⟩ := rd5_ok hc
    have hat := rd5_st hc
    obtain ⟨h40, _⟩ := rd5_good h1 hc
    by_cases hl : (rd5 bs).n > (bs.length : Int) - 40
    · have t1 : rB1 bs = ((rd5 bs).st.fail 8 bs.length, false) := by unfold rB1 rtake; rw [if_neg (by omega), if_neg (by omega), if_pos (by omega)]
      have t2 : (rB2 bs).1.code ≠ 0 := by unfold rB2; rw [t1, rtake_bdO (fail_AtK (by decide))]; exact fail_AtK (by decide)
      rw [if_pos, if_neg (fun e => t2 e.1)]
      unfold rsize
      split
      · exact .inr (.inr (.inl rfl))
      · exact .inr (.inr (.inr (by omega)))
    · have t1 : rB1 bs = ({ (rd5 bs).st with at_ := (rd5 bs).st.at_ + (rd5 bs).n.toNat }, true) := by unfold rB1 rtake; rw [if_neg (by omega), if_neg (by omega), if_neg (by omega)]
      by_cases hl2 : (bs.length : Int) < 44 + (rd5 bs).n
      · have t2 : (rB2 bs).1.code ≠ 0 := by
          unfold rB2
          rw [t1]
          unfold rtake
          rw [if_neg (by simp only; omega), if_neg (by decide), if_pos (by simp only; omega)]
          exact fail_AtK (by decide)
        rw [if_pos, if_neg (fun e => t2 e.1)]
        unfold rsize
        split
        · exact .inr (.inr (.inl rfl))
        · exact .inr (.inr (.inr (by omega)))
      · have t2 : rB2 bs = ({ (rd5 bs).st with at_ := (rd5 bs).st.at_ + (rd5 bs).n.toNat + 4 }, true) := by
          unfold rB2
          rw [t1]
          unfold rtake
          rw [if_neg (by simp only; omega), if_neg (by decide), if_neg (by simp only; omega)]
          rfl
        have hd : rDat bs = (bs.drop 40).take (rd5 bs).n.toNat := by unfold rDat; rw [t1, if_pos rfl, hat]
        rw [t2]
        simp only [hat]
        by_cases hb : (rd5 bs).n ≤ 1048576
        · have hz : rsize (rd5 bs).n = 44 + (rd5 bs).n := by unfold rsize; rw [if_neg (by omega)]; omega
          have hz2 : (44 + (rd5 bs).n).toNat = 40 + (rd5 bs).n.toNat + 4 := by omega
          rw [if_neg (by rw [h1, hz]; rintro (e | e | e | e) <;> first | cases e | exact e ⟨hc, h2⟩ | omega), hz, hz2]
          by_cases hs : sumOk (bs.take (40 + (rd5 bs).n.toNat + 4)) = true
          · rw [if_pos hs, if_pos ⟨hc, hb, hs⟩, hd]
            congr 2
            rw [List.take_take, List.length_take, Nat.min_eq_left (by omega), Nat.min_eq_left (by omega), List.drop_take]
            congr 1
            omega
          · rw [if_neg hs, if_neg (fun e => hs e.2.2)]
        · rw [if_pos, if_neg (fun e => hb e.2.1)]
          refine .inr (.inr (.inl ?_))
          unfold rsize
          rw [if_pos (by omega)]
  · have t1 : rB1 bs = ((rd5 bs).st, false) := by unfold rB1; exact rtake_bdO hc
    have t2 : rB2 bs = ((rd5 bs).st, false) := by unfold rB2; rw [t1]; exact rtake_bdO hc
    rw [if_pos (.inr (.inl fun e => hc e.1)), t2, if_neg (fun e => hc e.1)]
end Go.Pl
