import Derived.Test.YtjfppkhaiooloaaGreatDoorT91
set_option linter.unusedSimpArgs false
namespace Go.Proofs.YtjfppkhaiooloaaGreatDoor.Cp
open Go.AI
theorem wrap_in {x : Int} (h : -9223372036854775808 ≤ x) (h' : x < 9223372036854775808) : IntKind.i64.wrap x = x := by
  rw [IntWalk.i64_in _ (by omega)]
theorem compare154 {E : Env} (hE : E.fn 154 = some a154) (hs : ∀ args s, E.spec 154 args s = none) (p q : Int × Int) (s : St) (hw : Wf s)
    (hp : 0 ≤ p.1 ∧ p.1 < 1048577 ∧ 0 ≤ p.2 ∧ p.2 < 1048577) (hq : 0 ≤ q.1 ∧ q.1 < 1048577 ∧ 0 ≤ q.2 ∧ q.2 < 1048577) :
    EvCall E 154 [.agg #[.int .i64 p.1, .int .i64 p.2], .agg #[.int .i64 q.1, .int .i64 q.2]] s fun r s' => (∃ d, r = .ret (.int .i64 d) ∧ decide (d ≥ 0) = !lessE p q) ∧ Wf s' ∧ Keep No s s' := by
  refine evCall_w (hs _ _) hE ?_
  simp only [go_sem, Nat.reduceEqDiff, if_true, if_false, Nat.zero_add, Nat.add_zero]
  obtain ⟨w1, k1⟩ := new_ok hw (.cells [.int .i64 p.1, .int .i64 p.2])
  have c1 := new_cells_self hw [.int .i64 p.1, .int .i64 p.2]
  have n1 : (s.new (.cells [.int .i64 p.1, .int .i64 p.2])).next = s.next + 1 := rfl
  generalize s.new (.cells [.int .i64 p.1, .int .i64 p.2]) = s1 at *
  obtain ⟨w2, k2⟩ := new_ok w1 (.cells [.int .i64 q.1, .int .i64 q.2])
  have c2 := new_cells_self w1 [.int .i64 q.1, .int .i64 q.2]
  generalize s1.new (.cells [.int .i64 q.1, .int .i64 q.2]) = s2 at *
  rw [n1] at c2
  have c1 := k2.cellsNo c1
  have fin : Keep No s s2 := k1.trans k2
  simp only [go_sem, Nat.reduceEqDiff, if_true, if_false, Nat.zero_add, Nat.add_zero, c1, c2, List.getElem?_cons_succ, List.getElem?_cons_zero]
  have e1 := wrap_in (x := p.1 - q.1) (by omega) (by omega)
  have e2 := wrap_in (x := p.2 - q.2) (by omega) (by omega)
  cases h2 : p.1 == q.1
  · have h2' : p.1 ≠ q.1 := by simpa using h2
    simp only [go_sem, Nat.reduceEqDiff, if_true, if_false, Nat.zero_add, Nat.add_zero, c1, c2, List.getElem?_cons_succ, List.getElem?_cons_zero, bne, h2, Bool.not_false, e1]
    refine ⟨⟨_, rfl, ?_⟩, w2, fin⟩
    simp only [lessE, h2, Bool.false_and, Bool.or_false]
    by_cases h : p.1 < q.1
    · simp [h] <;> omega
    · simp [h] <;> omega
  · have h2' : p.1 = q.1 := by simpa using h2
    simp only [go_sem, Nat.reduceEqDiff, if_true, if_false, Nat.zero_add, Nat.add_zero, c1, c2, List.getElem?_cons_succ, List.getElem?_cons_zero, bne, h2, Bool.not_true, e2]
    refine ⟨⟨_, rfl, ?_⟩, w2, fin⟩
    simp only [lessE, h2, Bool.true_and]
    have : ¬ p.1 < q.1 := by omega
    by_cases h : p.2 < q.2
    · simp [h] <;> omega
    · simp [h, this] <;> omega
end Go.Proofs.YtjfppkhaiooloaaGreatDoor.Cp
