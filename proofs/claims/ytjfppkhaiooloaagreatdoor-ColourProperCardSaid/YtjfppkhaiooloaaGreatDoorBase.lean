/- What all rows of the seat want: the program's facts, and what a call of the abstract interpreter gives. -/
import Derived.Test.YtjfppkhaiooloaaGreatDoorRows
import Derived.Test.YtjfppkhaiooloaaGreatDoorTie
import Derived.Test.YtjfppkhaiooloaaGreatDoorCards
import Derived.Test.YtjfppkhaiooloaaGreatDoorAiB
namespace Go.Proofs.YtjfppkhaiooloaaGreatDoor
open Go.AI Go.ChangeShapes Go.WideShapes Go.ChangeAt Go.WideMaps Go.WideElems Go.RowKit
theorem own : ownKnob Tryz.prog.godebug = none := by kernel_rfl
theorem laidOut : laidOutB Tryz.prog = true := by kernel_rfl
theorem mixed : Tryz.prog.follows .mixedOrders = true := by kernel_rfl
theorem typesOk : TyOk Tryz.prog (tyOf Tryz.prog) := tyOk (of_decide_eq_true (by kernel_rfl)) (by kernel_rfl)
theorem gEmpty : Tryz.prog.globalNamed "tangram/lr.empty" = some 0 := by kernel_rfl
theorem tEmpty : (Tryz.prog.globals[0]?).map (·.type) = some 245 := by kernel_rfl
def laid1 : List (String × DataW Unit) := [("tangram/lr.empty", Rows.laid_tangram_lr_empty)]
theorem door_met (os : Os) (args : Array Value) : laidMetH Tryz.prog laid1 ((World.doorLaid Tryz.prog 400 os).forCall (fun _ _ => 0) ⟨#[], args, []⟩).memory :=
  laidMetH_of_parts3 (fuel := 8) (laidMet_of_run' 8 (by kernel_rfl) (by kernel_rfl)) (by kernel_rfl) (by kernel_rfl)
theorem laid_empty {W : World} (h : laidMetH Tryz.prog laid1 W) : ∃ cs elem, W.heap[0]? = some (.cells cs elem (0, 0)) ∧ cs.toList = [.int .i64 (-1), .int .i64 (-1)] := by
  rw [MakeChecks.laidMetH_plain _ _ _ (by kernel_rfl)] at h
  exact laid_two h gEmpty tEmpty Tryz.underlying245 ⟨rfl, rfl⟩ ⟨rfl, rfl⟩ (by kernel_rfl) (by kernel_rfl) (by kernel_rfl) Tryz.underlying3 Tryz.underlying3
/-- What the package-level variable holds. -/
noncomputable def glob : List Value := [.int .i64 (-1), .int .i64 (-1)]
theorem glob_plain : ∀ v ∈ glob, plain v = true := by intro v hv; simp [glob] at hv; subst hv; rfl
/-- The package-level variable at a start. -/
theorem glob_obj {LR : LoopOk} {μ : Mu} {W : World} {cs : Array Value} {elem : TypeId} (h : W.heap[0]? = some (.cells cs elem (0, 0))) (hc : cs.toList = [.int .i64 (-1), .int .i64 (-1)]) : ObjR LR μ W (.cells glob) true ⟨0, 0, 2⟩ := by
  have hsz : cs.size = 2 := by have := congrArg List.length hc; simpa using this
  refine cellsR_start h (by simp [glob]) (by show 2 ≤ cs.size; omega) rfl ?_
  intro i v hv
  have e : cs[0 + i]? = some v := by rw [Nat.zero_add, ← Array.getElem?_toList, hc]; exact hv
  refine ⟨v, e, ?_⟩
  have hm := List.mem_of_getElem? hv
  simp [glob] at hm
  subst hm
  exact .int _ _
end Go.Proofs.YtjfppkhaiooloaaGreatDoor
