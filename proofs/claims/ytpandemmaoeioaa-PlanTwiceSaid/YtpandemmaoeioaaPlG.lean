/- Plain laws of executing commands in place, more. No condition. -/
import Derived.Test.YtpandemmaoeioaaPlF
namespace Go.Pl
theorem chunks_ok {c : Cm} {s : Int} (hc : ccheck c = 0) : ∀ d ∈ chunks c s, ccheck d = 0 := fun d hd => by
  unfold chunks at hd
  split at hd
  · cases hd
  · obtain ⟨k, hk, rfl⟩ := List.mem_map.1 hd
    have := List.mem_range.1 hk
    exact (chAt_check hc (by omega)).1
theorem exs_le {f : List UInt8} {c : Cm} (hc : ccheck c = 0) : ((exs f [c]).getD []).length ≤ f.length := by
  unfold exs
  split
  · rename_i h
    simp only [List.all_cons, List.all_nil, Bool.and_true] at h
    simp only [Option.getD_some, List.foldl_cons, List.foldl_nil]
    rw [ex1_length hc h]
    exact Nat.le_refl _
  · simp
end Go.Pl
