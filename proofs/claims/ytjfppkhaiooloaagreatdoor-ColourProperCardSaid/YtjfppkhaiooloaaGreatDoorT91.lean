import Derived.Test.YtjfppkhaiooloaaGreatDoorAiSl
import Derived.Test.YtjfppkhaiooloaaGreatDoorAiWd
import Derived.Test.YtjfppkhaiooloaaGreatDoorCpCd0
set_option linter.unusedSimpArgs false
namespace Go.Proofs.YtjfppkhaiooloaaGreatDoor.Cp
open Go.AI
def lessE (p q : Int × Int) : Bool := decide (p.1 < q.1) || (p.1 == q.1 && decide (p.2 < q.2))

theorem less91 {E : Env} (hE : E.fn 91 = some a91) (hs : ∀ args s, E.spec 91 args s = none) (p q : Int × Int) (s : St) (hw : Wf s) :
    EvCall E 91 [.agg #[.int .i64 p.1, .int .i64 p.2], .agg #[.int .i64 q.1, .int .i64 q.2]] s fun r s' => r = .ret (.bool (lessE p q)) ∧ Wf s' ∧ Keep No s s' := by
  refine evCall_w (hs _ _) hE ?_
  simp only [go_sem, Nat.reduceEqDiff, if_true, if_false, Nat.zero_add, Nat.add_zero]
  obtain ⟨w1, k1⟩ := new_ok hw (.cells [.int .i64 p.1, .int .i64 p.2])
  have c1 := new_cells_self hw [.int .i64 p.1, .int .i64 p.2]
  have n1 : (s.new (.cells [.int .i64 p.1, .int .i64 p.2])).next = s.next + 1 := rfl
  generalize s.new (.cells [.int .i64 p.1, .int .i64 p.2]) = s1 at *
  obtain ⟨w2, k2⟩ := new_ok w1 (.cells [.int .i64 q.1, .int .i64 q.2])
  have c2 := new_cells_self w1 [.int .i64 q.1, .int .i64 q.2]
  generalize s1.new (.cells [.int .i64 q.1, .int .i64 q.2]) = s2 at *
  rw [n1] at c2
  have c1 := k2.cellsNo c1
  simp only [go_sem, Nat.reduceEqDiff, if_true, if_false, Nat.zero_add, Nat.add_zero, c1, c2, List.getElem?_cons_succ, List.getElem?_cons_zero]
  have fin : Keep No s s2 := k1.trans k2
  cases h1 : decide (p.1 < q.1)
  · cases h2 : p.1 == q.1 <;>
    · simp only [go_sem, Nat.reduceEqDiff, if_true, if_false, Nat.zero_add, Nat.add_zero, c1, c2, List.getElem?_cons_succ, List.getElem?_cons_zero, h1, h2, Bool.true_beq, Bool.false_beq, Bool.not_false, Bool.not_true]
      exact ⟨by simp [lessE, h1, h2], w2, fin⟩
  · simp only [go_sem, Nat.reduceEqDiff, if_true, if_false, Nat.zero_add, Nat.add_zero, c1, c2, List.getElem?_cons_succ, List.getElem?_cons_zero, h1, Bool.true_beq, Bool.false_beq, Bool.not_true]
    exact ⟨by simp [lessE, h1], w2, fin⟩
end Go.Proofs.YtjfppkhaiooloaaGreatDoor.Cp
