/- The weights of what is handed in. -/
import Derived.Test.YtjfppkhaiooloaaGreatDoorArgs
namespace Go.Proofs.YtjfppkhaiooloaaGreatDoor
open Go.AI
set_option maxRecDepth 100000
theorem graph_weight {H : Type} {dn : DataW H} {xs rest : List (DataW H)} (h : ((DataW.agg [dn, .slice xs rest]).weights Tryz.prog 24).all (· ≤ reachBytes) = true) : xs.length * 16 ≤ maxBytes := by
  have b49 : Tryz.prog.bytesOf 49 = 16 := by kernel_rfl
  have hb : reachBytes ≤ maxBytes := by decide
  simp only [DataW.weights, Tryz.underlying24, Tryz.underlying22, DataW.weightsEach, List.map, b49, List.all_append, List.all_cons, Bool.and_eq_true, decide_eq_true_eq] at h
  obtain ⟨_, ⟨h, _⟩, _⟩ := h
  have : xs.length * 16 ≤ (xs.length + rest.length) * 16 := Nat.mul_le_mul_right _ (Nat.le_add_right ..)
  omega
theorem ints_weight {H : Type} {xs rest : List (DataW H)} (h : ((DataW.slice xs rest : DataW H).weights Tryz.prog 26).all (· ≤ reachBytes) = true) : xs.length * 8 ≤ maxBytes := by
  have b3 : Tryz.prog.bytesOf 3 = 8 := by kernel_rfl
  have hb : reachBytes ≤ maxBytes := by decide
  simp only [DataW.weights, Tryz.underlying26, b3, List.all_append, List.all_cons, Bool.and_eq_true, decide_eq_true_eq] at h
  obtain ⟨h, _⟩ := h
  have : xs.length * 8 ≤ (xs.length + rest.length) * 8 := Nat.mul_le_mul_right _ (Nat.le_add_right ..)
  omega
end Go.Proofs.YtjfppkhaiooloaaGreatDoor
