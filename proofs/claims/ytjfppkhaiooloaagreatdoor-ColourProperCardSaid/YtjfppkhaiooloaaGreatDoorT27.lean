import Derived.Test.YtjfppkhaiooloaaGreatDoorT91
set_option linter.unusedSimpArgs false
namespace Go.Proofs.YtjfppkhaiooloaaGreatDoor.Cp
open Go.AI
/-- An edge in its place: in range, and above the one before. -/
def okAt (n : Int) (l : List (Int × Int)) (j : Nat) : Prop := ∃ p, l[j]? = some p ∧ 0 ≤ p.1 ∧ p.1 < p.2 ∧ p.2 < n ∧ (0 < j → ∃ q, l[j - 1]? = some q ∧ lessE q p = true)
def okG (n : Int) (l : List (Int × Int)) : Prop := 0 ≤ n ∧ n ≤ 1048576 ∧ l.length ≤ 4194304 ∧ ∀ j, j < l.length → okAt n l j

theorem valid27 {E : Env} (hE : E.fn 27 = some a27) (hs : ∀ args s, E.spec 27 args s = none) (hE91 : E.fn 91 = some a91) (hs91 : ∀ args s, E.spec 91 args s = none) (n : Int) (l : List (Int × Int)) (ev : Value) (s : St) (hw : Wf s) (hl : Shows s ev 2 l.length (pairs l)) :
    EvCall E 27 [.agg #[.int .i64 n, ev]] s fun r s' => (∃ b, r = .ret (.bool b) ∧ (b = true ↔ okG n l)) ∧ Wf s' ∧ Keep No s s' := by
  refine evCall_w (hs _ _) hE ?_
  simp only [go_sem, Nat.reduceEqDiff, if_true, if_false, Nat.zero_add, Nat.add_zero, List.getElem?_cons_succ, List.getElem?_cons_zero, Bool.true_beq, Bool.false_beq, Bool.not_true, Bool.not_false, cond_true, cond_false, hl.oneCell]
  obtain ⟨w1, k1⟩ := new_ok hw (.cells [.int .i64 n, ev])
  have c1 := new_cells_self hw [.int .i64 n, ev]
  generalize s.new (.cells [.int .i64 n, ev]) = s1 at *
  have hl1 := hl.keep k1
  simp only [go_sem, Nat.reduceEqDiff, if_true, if_false, Nat.zero_add, Nat.add_zero, List.getElem?_cons_succ, List.getElem?_cons_zero, Bool.true_beq, Bool.false_beq, Bool.not_true, Bool.not_false, cond_true, cond_false, c1]
  have no : ∀ {b : Bool}, b = false → (¬ okG n l) → (b = true ↔ okG n l) := by rintro _ rfl h; simp [h]
  cases h1 : decide (n < 0)
  case true =>
    simp only [go_sem, Nat.reduceEqDiff, if_true, if_false, Nat.zero_add, Nat.add_zero, List.getElem?_cons_succ, List.getElem?_cons_zero, Bool.true_beq, Bool.false_beq, Bool.not_true, Bool.not_false, cond_true, cond_false, c1, h1]
    exact ⟨⟨_, rfl, no rfl (by simp at h1; rintro ⟨h, _⟩; omega)⟩, w1, k1⟩
  cases h2 : decide (n > 1048576)
  case true =>
    simp only [go_sem, Nat.reduceEqDiff, if_true, if_false, Nat.zero_add, Nat.add_zero, List.getElem?_cons_succ, List.getElem?_cons_zero, Bool.true_beq, Bool.false_beq, Bool.not_true, Bool.not_false, cond_true, cond_false, c1, h1, h2]
    exact ⟨⟨_, rfl, no rfl (by simp at h2; rintro ⟨_, h, _⟩; omega)⟩, w1, k1⟩
  cases h3 : decide ((l.length : Int) > 4194304)
  case true =>
    simp only [go_sem, Nat.reduceEqDiff, if_true, if_false, Nat.zero_add, Nat.add_zero, List.getElem?_cons_succ, List.getElem?_cons_zero, Bool.true_beq, Bool.false_beq, Bool.not_true, Bool.not_false, cond_true, cond_false, c1, h1, h2, h3, hl1.lenV]
    exact ⟨⟨_, rfl, no rfl (by simp at h3; rintro ⟨_, _, h, _⟩; omega)⟩, w1, k1⟩
  simp only [go_sem, Nat.reduceEqDiff, if_true, if_false, Nat.zero_add, Nat.add_zero, List.getElem?_cons_succ, List.getElem?_cons_zero, Bool.true_beq, Bool.false_beq, Bool.not_true, Bool.not_false, cond_true, cond_false, c1, h1, h2, h3, hl1.lenV]
  have hn : 0 ≤ n ∧ n ≤ 1048576 ∧ l.length ≤ 4194304 := by simp at h1 h2 h3; omega
  clear h1 h2 h3
  have hmb : l.length ≤ maxBytes := Nat.le_trans hn.2.2 (by decide)
  refine ev_loop (fun k fr s' => ∃ i tm, k = l.length - i ∧ i ≤ l.length ∧ fr = ⟨tm, []⟩ ∧ tm.get 1 = some (.pointer (some ⟨s.next, 0, none⟩)) ∧ tm.get 3 = some (.int .i64 i) ∧
      Wf s' ∧ Keep No s1 s' ∧ ∀ j, j < i → okAt n l j) ⟨0, _, rfl, Nat.zero_le _, rfl, ?_⟩ ?_
  · simp only [go_sem, Nat.reduceEqDiff, if_true, if_false, Nat.zero_add, Nat.add_zero, List.getElem?_cons_succ, List.getElem?_cons_zero, Bool.true_beq, Bool.false_beq, Bool.not_true, Bool.not_false, cond_true, cond_false, true_and, w1]
    exact ⟨rfl, Keep.refl _ _, fun j h => absurd h (by omega)⟩
  · rintro k fr s' ⟨i, tm, rfl, hi, rfl, g1, g3, w', k', hok⟩
    apply w_sound
    have c1' := k'.cellsNo c1
    have hl' := hl1.keep k'
    simp only [go_sem, Nat.reduceEqDiff, if_true, if_false, Nat.zero_add, Nat.add_zero, List.getElem?_cons_succ, List.getElem?_cons_zero, Bool.true_beq, Bool.false_beq, Bool.not_true, Bool.not_false, cond_true, cond_false, g1, g3, c1', hl'.lenV]
    by_cases hlt : (i : Int) < l.length
    · have hlt' : i < l.length := by omega
      obtain ⟨p, hp⟩ : ∃ p, l[i]? = some p := ⟨l[i], by simp [hlt']⟩
      have hload := hl'.cells (j := i * 2) (m := 2) (by omega) (by omega)
      rw [pairs_cut l i p hp] at hload
      simp only [hlt, decide_true, go_sem, Nat.reduceEqDiff, if_true, if_false, Nat.zero_add, Nat.add_zero, List.getElem?_cons_succ, List.getElem?_cons_zero, Bool.true_beq, Bool.false_beq, Bool.not_true, Bool.not_false, cond_true, cond_false, g1, g3, c1']
      rw [hl'.idx (by omega) hlt]
      simp only [go_sem, Nat.reduceEqDiff, if_true, if_false, Nat.zero_add, Nat.add_zero, List.getElem?_cons_succ, List.getElem?_cons_zero, Bool.true_beq, Bool.false_beq, Bool.not_true, Bool.not_false, cond_true, cond_false, Int.toNat_natCast, hload]
      obtain ⟨w3, k3⟩ := new_ok w' (.cells [.int .i64 0, .int .i64 0])
      have o3 := new_own w' [.int .i64 0, .int .i64 0]
      generalize s'.new (.cells [.int .i64 0, .int .i64 0]) = s3 at *
      obtain ⟨s4, hst, w4, n4, o4, k4⟩ := store_own (off := 0) w3 o3 (v := .agg #[.int .i64 p.1, .int .i64 p.2]) (vs := [.int .i64 p.1, .int .i64 p.2]) rfl rfl (by simp)
      have hst : storeV s3 2 (.pointer (some ⟨s'.next, 0, none⟩)) (.agg #[.int .i64 p.1, .int .i64 p.2]) = some (Go.undef, s4) := hst
      have c4 : s4.cells? s'.next = some [.int .i64 p.1, .int .i64 p.2] := o4.cells
      have k4' : Keep No s' s4 := k3.fresh k4 (fun g hg => by omega) w'
      have c1'' := k4'.cellsNo c1'
      have hl'' := hl'.keep k4'
      simp only [go_sem, Nat.reduceEqDiff, if_true, if_false, Nat.zero_add, Nat.add_zero, List.getElem?_cons_succ, List.getElem?_cons_zero, Bool.true_beq, Bool.false_beq, Bool.not_true, Bool.not_false, cond_true, cond_false, hst, c4, c1'', g1, g3]
      have bad : ∀ {b : Bool}, b = false → ¬ (0 ≤ p.1 ∧ p.1 < p.2 ∧ p.2 < n) → (b = true ↔ okG n l) := fun hb h => no hb (by
        rintro ⟨_, _, _, ha⟩
        obtain ⟨p', hp', a, b, c, _⟩ := ha i hlt'
        rw [hp] at hp'; cases hp'
        exact h ⟨a, b, c⟩)
      have kk : Keep No s s4 := (k1.trans k').trans k4'
      cases h1 : decide (p.1 < 0)
      case true =>
        simp only [go_sem, Nat.reduceEqDiff, if_true, if_false, Nat.zero_add, Nat.add_zero, List.getElem?_cons_succ, List.getElem?_cons_zero, Bool.true_beq, Bool.false_beq, Bool.not_true, Bool.not_false, cond_true, cond_false, c4, c1'', g1, g3, h1]
        exact ⟨⟨_, rfl, bad rfl (by simp at h1; rintro ⟨h, _⟩; omega)⟩, w4, kk⟩
      cases h2 : decide (p.1 ≥ p.2)
      case true =>
        simp only [go_sem, Nat.reduceEqDiff, if_true, if_false, Nat.zero_add, Nat.add_zero, List.getElem?_cons_succ, List.getElem?_cons_zero, Bool.true_beq, Bool.false_beq, Bool.not_true, Bool.not_false, cond_true, cond_false, c4, c1'', g1, g3, h1, h2]
        exact ⟨⟨_, rfl, bad rfl (by simp at h2; rintro ⟨_, h, _⟩; omega)⟩, w4, kk⟩
      cases h3 : decide (p.2 ≥ n)
      case true =>
        simp only [go_sem, Nat.reduceEqDiff, if_true, if_false, Nat.zero_add, Nat.add_zero, List.getElem?_cons_succ, List.getElem?_cons_zero, Bool.true_beq, Bool.false_beq, Bool.not_true, Bool.not_false, cond_true, cond_false, c4, c1'', g1, g3, h1, h2, h3]
        exact ⟨⟨_, rfl, bad rfl (by simp at h3; rintro ⟨_, _, h⟩; omega)⟩, w4, kk⟩
      simp only [go_sem, Nat.reduceEqDiff, if_true, if_false, Nat.zero_add, Nat.add_zero, List.getElem?_cons_succ, List.getElem?_cons_zero, Bool.true_beq, Bool.false_beq, Bool.not_true, Bool.not_false, cond_true, cond_false, c4, c1'', g1, g3, h1, h2, h3]
      have hr : 0 ≤ p.1 ∧ p.1 < p.2 ∧ p.2 < n := by simp at h1 h2 h3; omega
      by_cases h0 : (i : Int) > 0
      · obtain ⟨q, hq⟩ : ∃ q, l[i - 1]? = some q := ⟨l[i - 1], by rw [List.getElem?_eq_getElem]⟩
        have hload' := hl''.cells (j := (i - 1) * 2) (m := 2) (by omega) (by omega)
        rw [pairs_cut l (i - 1) q hq] at hload'
        have hs1 : IntKind.i64.wrap ((i : Int) - 1) = ((i - 1 : Nat) : Int) := by rw [IntWalk.i64_in _ (by omega)]; omega
        simp only [h0, decide_true, go_sem, Nat.reduceEqDiff, if_true, if_false, Nat.zero_add, Nat.add_zero, List.getElem?_cons_succ, List.getElem?_cons_zero, Bool.true_beq, Bool.false_beq, Bool.not_true, Bool.not_false, cond_true, cond_false, c4, c1'', g1, g3]
        refine ev_drawn ?_
        simp only [go_sem, Nat.reduceEqDiff, if_true, if_false, Nat.zero_add, Nat.add_zero, List.getElem?_cons_succ, List.getElem?_cons_zero, Bool.true_beq, Bool.false_beq, Bool.not_true, Bool.not_false, cond_true, cond_false, c4, c1'', g1, g3, hs1]
        rw [hl''.idx (by omega) (by omega)]
        simp only [go_sem, Nat.reduceEqDiff, if_true, if_false, Nat.zero_add, Nat.add_zero, List.getElem?_cons_succ, List.getElem?_cons_zero, Bool.true_beq, Bool.false_beq, Bool.not_true, Bool.not_false, cond_true, cond_false, Int.toNat_natCast, hload', c4]
        refine (less91 hE91 hs91 q p s4 w4).mono ?_
        rintro r s5 ⟨rfl, w5, k5⟩
        have c1'' := k5.cellsNo c1''
        cases h4 : lessE q p
        case false =>
          simp only [go_sem, Nat.reduceEqDiff, if_true, if_false, Nat.zero_add, Nat.add_zero, List.getElem?_cons_succ, List.getElem?_cons_zero, Bool.true_beq, Bool.false_beq, Bool.not_true, Bool.not_false, cond_true, cond_false, c1'', g1, g3, h4]
          exact ⟨⟨_, rfl, no rfl (by
            rintro ⟨_, _, _, ha⟩
            obtain ⟨p', hp', _, _, _, hc⟩ := ha i hlt'
            obtain ⟨q', hq', hc⟩ := hc (by omega)
            rw [hp] at hp'; cases hp'; rw [hq] at hq'; cases hq'
            rw [h4] at hc; cases hc)⟩, w5, kk.trans k5⟩
        case true =>
          simp only [go_sem, Nat.reduceEqDiff, if_true, if_false, Nat.zero_add, Nat.add_zero, List.getElem?_cons_succ, List.getElem?_cons_zero, Bool.true_beq, Bool.false_beq, Bool.not_true, Bool.not_false, cond_true, cond_false, c1'', g1, g3, h4]
          refine ⟨l.length - (i + 1), by omega, i + 1, _, rfl, by omega, rfl, ?_⟩
          simp only [go_sem, Nat.reduceEqDiff, if_true, if_false, Nat.zero_add, Nat.add_zero, List.getElem?_cons_succ, List.getElem?_cons_zero, Bool.true_beq, Bool.false_beq, Bool.not_true, Bool.not_false, cond_true, cond_false, g1, true_and, w5]
          refine ⟨by rw [wrap_succ hlt' hmb], (k'.trans k4').trans k5, fun j hj => ?_⟩
          by_cases hji : j = i
          · exact ⟨p, by rw [hji]; exact hp, hr.1, hr.2.1, hr.2.2, fun h => ⟨q, by rw [hji]; exact hq, h4⟩⟩
          · exact hok j (by omega)
      · simp only [h0, decide_false, go_sem, Nat.reduceEqDiff, if_true, if_false, Nat.zero_add, Nat.add_zero, List.getElem?_cons_succ, List.getElem?_cons_zero, Bool.true_beq, Bool.false_beq, Bool.not_true, Bool.not_false, cond_true, cond_false, c4, c1'', g1, g3]
        refine ⟨l.length - (i + 1), by omega, i + 1, _, rfl, by omega, rfl, ?_⟩
        simp only [go_sem, Nat.reduceEqDiff, if_true, if_false, Nat.zero_add, Nat.add_zero, List.getElem?_cons_succ, List.getElem?_cons_zero, Bool.true_beq, Bool.false_beq, Bool.not_true, Bool.not_false, cond_true, cond_false, g1, true_and, w4]
        refine ⟨by rw [wrap_succ hlt' hmb], k'.trans k4', fun j hj => ?_⟩
        by_cases hji : j = i
        · exact ⟨p, by rw [hji]; exact hp, hr.1, hr.2.1, hr.2.2, fun h => by omega⟩
        · exact hok j (by omega)
    · have hil : i = l.length := by omega
      simp only [hlt, decide_false, go_sem, Nat.reduceEqDiff, if_true, if_false, Nat.zero_add, Nat.add_zero, List.getElem?_cons_succ, List.getElem?_cons_zero, Bool.true_beq, Bool.false_beq, Bool.not_true, Bool.not_false, cond_true, cond_false]
      exact ⟨⟨_, rfl, by simp only [true_iff]; exact ⟨hn.1, hn.2.1, hn.2.2, fun j hj => hok j (by omega)⟩⟩, w', k1.trans k'⟩
end Go.Proofs.YtjfppkhaiooloaaGreatDoor.Cp
