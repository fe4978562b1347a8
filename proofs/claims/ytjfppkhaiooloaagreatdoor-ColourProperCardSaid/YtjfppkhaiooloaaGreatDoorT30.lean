import Derived.Test.YtjfppkhaiooloaaGreatDoorT29
set_option linter.unusedSimpArgs false
namespace Go.Proofs.YtjfppkhaiooloaaGreatDoor.Cp
open Go.AI
theorem proper30 {E : Env} (hE : E.fn 30 = some a30) (hs : ∀ args s, E.spec 30 args s = none) (hE92 : E.fn 92 = some a92) (hs92 : ∀ args s, E.spec 92 args s = none) (hE154 : E.fn 154 = some a154) (hs154 : ∀ args s, E.spec 154 args s = none)
    (n : Int) (l : List (Int × Int)) (c : List Int) (ev cv : Value) (s : St) (hw : Wf s) (hl : Shows s ev 2 l.length (pairs l)) (hc : Shows s cv 1 c.length (ints c)) :
    EvCall E 30 [.agg #[.int .i64 n, ev], cv] s fun r s' => (∃ b k, r = .ret (.tuple #[.bool b, .int .i64 k]) ∧ properG n l c b k) ∧ Wf s' ∧ Keep No s s' := by
  refine evCall_w (hs _ _) hE ?_
  simp only [go_sem, Nat.reduceEqDiff, if_true, if_false, Nat.zero_add, Nat.add_zero, List.getElem?_cons_succ, List.getElem?_cons_zero, Bool.true_beq, Bool.false_beq, Bool.not_true, Bool.not_false, cond_true, cond_false, hl.oneCell]
  obtain ⟨w1, k1⟩ := new_ok hw (.cells [.int .i64 n, ev])
  have c1 := new_cells_self hw [.int .i64 n, ev]
  generalize s.new (.cells [.int .i64 n, ev]) = s1 at *
  simp only [go_sem, Nat.reduceEqDiff, if_true, if_false, Nat.zero_add, Nat.add_zero, List.getElem?_cons_succ, List.getElem?_cons_zero, Bool.true_beq, Bool.false_beq, Bool.not_true, Bool.not_false, cond_true, cond_false, c1]
  refine (valid92 hE92 hs92 hE154 hs154 n l ev s1 w1 (hl.keep k1)).mono ?_
  rintro r s2 ⟨⟨b, rfl, hb⟩, w2, k2⟩
  have c1 := k2.cellsNo c1
  have k02 := k1.trans k2
  cases b
  case false =>
    have hno : ¬ okG n l := fun h => by have := hb.2 h; cases this
    simp only [go_sem, Nat.reduceEqDiff, if_true, if_false, Nat.zero_add, Nat.add_zero, List.getElem?_cons_succ, List.getElem?_cons_zero, Bool.true_beq, Bool.false_beq, Bool.not_true, Bool.not_false, cond_true, cond_false, c1]
    exact ⟨⟨_, _, rfl, fun _ => ⟨rfl, rfl⟩, fun h => absurd h hno, fun h => absurd h hno⟩, w2, k02⟩
  have hok := hb.1 rfl
  have hc2 := hc.keep k02
  have hl2 := hl.keep k02
  simp only [go_sem, Nat.reduceEqDiff, if_true, if_false, Nat.zero_add, Nat.add_zero, List.getElem?_cons_succ, List.getElem?_cons_zero, Bool.true_beq, Bool.false_beq, Bool.not_true, Bool.not_false, cond_true, cond_false, c1, hc2.lenV]
  by_cases hlen : (c.length : Int) = n
  case neg =>
    have : ((c.length : Int) == n) = false := by simpa using hlen
    simp only [go_sem, Nat.reduceEqDiff, if_true, if_false, Nat.zero_add, Nat.add_zero, List.getElem?_cons_succ, List.getElem?_cons_zero, Bool.true_beq, Bool.false_beq, Bool.not_true, Bool.not_false, cond_true, cond_false, c1, bne, this]
    exact ⟨⟨_, _, rfl, fun h => absurd hok h, fun _ _ => ⟨rfl, rfl⟩, fun _ h => absurd h hlen⟩, w2, k02⟩
  have : ((c.length : Int) == n) = true := by simpa using hlen
  simp only [go_sem, Nat.reduceEqDiff, if_true, if_false, Nat.zero_add, Nat.add_zero, List.getElem?_cons_succ, List.getElem?_cons_zero, Bool.true_beq, Bool.false_beq, Bool.not_true, Bool.not_false, cond_true, cond_false, c1, bne, this]
  have hmb : l.length ≤ maxBytes := Nat.le_trans hok.2.2.1 (by decide)
  simp only [go_sem, Nat.reduceEqDiff, if_true, if_false, Nat.zero_add, Nat.add_zero, List.getElem?_cons_succ, List.getElem?_cons_zero, Bool.true_beq, Bool.false_beq, Bool.not_true, Bool.not_false, cond_true, cond_false, c1, hl2.lenV]
  refine ev_loop (fun k fr s' => ∃ i tm, k = l.length - i ∧ i ≤ l.length ∧ fr = ⟨tm, []⟩ ∧ tm.get 1 = some cv ∧ tm.get 2 = some (.pointer (some ⟨s.next, 0, none⟩)) ∧ tm.get 17 = some ev ∧ tm.get 18 = some (.int .i64 l.length) ∧ tm.get 19 = some (.int .i64 i) ∧
      Wf s' ∧ Keep No s2 s' ∧ ∀ j, j < i → unlike l c j) ⟨0, _, rfl, Nat.zero_le _, rfl, ?_⟩ ?_
  · simp only [go_sem, Nat.reduceEqDiff, if_true, if_false, Nat.zero_add, Nat.add_zero, List.getElem?_cons_succ, List.getElem?_cons_zero, Bool.true_beq, Bool.false_beq, Bool.not_true, Bool.not_false, cond_true, cond_false, true_and, w2]
    exact ⟨rfl, Keep.refl _ _, fun j h => absurd h (by omega)⟩
  · rintro k fr s' ⟨i, tm, rfl, hi, rfl, g1, g2, g17, g18, g19, w', k', hun⟩
    apply w_sound
    have c1' := k'.cellsNo c1
    have hl' := hl2.keep k'
    have hc' := hc2.keep k'
    simp only [go_sem, Nat.reduceEqDiff, if_true, if_false, Nat.zero_add, Nat.add_zero, List.getElem?_cons_succ, List.getElem?_cons_zero, Bool.true_beq, Bool.false_beq, Bool.not_true, Bool.not_false, cond_true, cond_false, g1, g2, g17, g18, g19]
    by_cases hlt : (i : Int) < l.length
    · have hlt' : i < l.length := by omega
      obtain ⟨p, hp⟩ : ∃ p, l[i]? = some p := ⟨l[i], by simp [hlt']⟩
      obtain ⟨p', hp', r1, r2, r3, _⟩ := hok.2.2.2 i hlt'
      rw [hp] at hp'; cases hp'
      have hload := hl'.cells (j := i * 2) (m := 2) (by omega) (by omega)
      rw [pairs_cut l i p hp] at hload
      obtain ⟨x, hx⟩ : ∃ x, c[p.1.toNat]? = some x := ⟨c[p.1.toNat], by rw [List.getElem?_eq_getElem]⟩
      obtain ⟨y, hy⟩ : ∃ y, c[p.2.toNat]? = some y := ⟨c[p.2.toNat], by rw [List.getElem?_eq_getElem]⟩
      simp only [hlt, decide_true, go_sem, Nat.reduceEqDiff, if_true, if_false, Nat.zero_add, Nat.add_zero, List.getElem?_cons_succ, List.getElem?_cons_zero, Bool.true_beq, Bool.false_beq, Bool.not_true, Bool.not_false, cond_true, cond_false, g1, g2, g17, g18, g19]
      rw [hl'.idx (by omega) hlt]
      simp only [go_sem, Nat.reduceEqDiff, if_true, if_false, Nat.zero_add, Nat.add_zero, List.getElem?_cons_succ, List.getElem?_cons_zero, Bool.true_beq, Bool.false_beq, Bool.not_true, Bool.not_false, cond_true, cond_false, Int.toNat_natCast, hload]
      obtain ⟨w3, k3⟩ := new_ok w' (.cells [.int .i64 0, .int .i64 0])
      have o3 := new_own w' [.int .i64 0, .int .i64 0]
      generalize s'.new (.cells [.int .i64 0, .int .i64 0]) = s3 at *
      obtain ⟨s4, hst, w4, n4, o4, k4⟩ := store_own (off := 0) w3 o3 (v := .agg #[.int .i64 p.1, .int .i64 p.2]) (vs := [.int .i64 p.1, .int .i64 p.2]) rfl rfl (by simp)
      have hst : storeV s3 2 (.pointer (some ⟨s'.next, 0, none⟩)) (.agg #[.int .i64 p.1, .int .i64 p.2]) = some (Go.undef, s4) := hst
      have c4 : s4.cells? s'.next = some [.int .i64 p.1, .int .i64 p.2] := o4.cells
      have k4' : Keep No s' s4 := k3.fresh k4 (fun g hg => by omega) w'
      have hc4 := hc'.keep k4'
      have e1 := hc4.cell (j := p.1.toNat) (x := .int .i64 x) (by rw [ints_get, hx]; rfl)
      have e2 := hc4.cell (j := p.2.toNat) (x := .int .i64 y) (by rw [ints_get, hy]; rfl)
      simp only [go_sem, Nat.reduceEqDiff, if_true, if_false, Nat.zero_add, Nat.add_zero, List.getElem?_cons_succ, List.getElem?_cons_zero, Bool.true_beq, Bool.false_beq, Bool.not_true, Bool.not_false, cond_true, cond_false, hst]
      refine ev_drawn ?_
      simp only [go_sem, Nat.reduceEqDiff, if_true, if_false, Nat.zero_add, Nat.add_zero, List.getElem?_cons_succ, List.getElem?_cons_zero, Bool.true_beq, Bool.false_beq, Bool.not_true, Bool.not_false, cond_true, cond_false, c4, g1, g2]
      rw [hc4.idx (by omega) (by omega)]
      simp only [go_sem, Nat.reduceEqDiff, if_true, if_false, Nat.zero_add, Nat.add_zero, List.getElem?_cons_succ, List.getElem?_cons_zero, Bool.true_beq, Bool.false_beq, Bool.not_true, Bool.not_false, cond_true, cond_false, Nat.mul_one, c4, g1, g2, e1]
      rw [hc4.idx (by omega) (by omega)]
      simp only [go_sem, Nat.reduceEqDiff, if_true, if_false, Nat.zero_add, Nat.add_zero, List.getElem?_cons_succ, List.getElem?_cons_zero, Bool.true_beq, Bool.false_beq, Bool.not_true, Bool.not_false, cond_true, cond_false, Nat.mul_one, c4, g1, g2, e2]
      have kk : Keep No s s4 := (k02.trans k').trans k4'
      cases hxy : x == y
      case true =>
        simp only [go_sem, Nat.reduceEqDiff, if_true, if_false, Nat.zero_add, Nat.add_zero, List.getElem?_cons_succ, List.getElem?_cons_zero, Bool.true_beq, Bool.false_beq, Bool.not_true, Bool.not_false, cond_true, cond_false, hxy]
        refine ⟨⟨_, _, rfl, fun h => absurd hok h, fun _ h => absurd hlen h, fun _ _ => ⟨rfl, ?_⟩⟩, w4, kk⟩
        simp only [Bool.false_eq_true, false_iff]
        intro h
        obtain ⟨p', hp', hne⟩ := h i hlt'
        rw [hp] at hp'; cases hp'
        rw [hx, hy] at hne
        simp at hxy
        exact hne (by rw [hxy])
      case false =>
        simp only [go_sem, Nat.reduceEqDiff, if_true, if_false, Nat.zero_add, Nat.add_zero, List.getElem?_cons_succ, List.getElem?_cons_zero, Bool.true_beq, Bool.false_beq, Bool.not_true, Bool.not_false, cond_true, cond_false, g1, g2, g17, g18, g19, hxy]
        refine ⟨l.length - (i + 1), by omega, i + 1, _, rfl, by omega, rfl, ?_⟩
        simp only [go_sem, Nat.reduceEqDiff, if_true, if_false, Nat.zero_add, Nat.add_zero, List.getElem?_cons_succ, List.getElem?_cons_zero, Bool.true_beq, Bool.false_beq, Bool.not_true, Bool.not_false, cond_true, cond_false, g1, g2, g17, g18, true_and, w4]
        refine ⟨by rw [wrap_succ hlt' hmb], k'.trans k4', fun j hj => ?_⟩
        by_cases hji : j = i
        · refine ⟨p, by rw [hji]; exact hp, ?_⟩
          rw [hx, hy]
          simpa using hxy
        · exact hun j (by omega)
    · have hil : i = l.length := by omega
      simp only [hlt, decide_false, go_sem, Nat.reduceEqDiff, if_true, if_false, Nat.zero_add, Nat.add_zero, List.getElem?_cons_succ, List.getElem?_cons_zero, Bool.true_beq, Bool.false_beq, Bool.not_true, Bool.not_false, cond_true, cond_false]
      exact ⟨⟨_, _, rfl, fun h => absurd hok h, fun _ h => absurd hlen h, fun _ _ => ⟨rfl, by simp only [true_iff]; exact fun j hj => hun j (by omega)⟩⟩, w', k02.trans k'⟩
end Go.Proofs.YtjfppkhaiooloaaGreatDoor.Cp
