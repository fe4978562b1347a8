import Derived.Test.YtjfppkhaiooloaaGreatDoorT92
set_option linter.unusedSimpArgs false
namespace Go.Proofs.YtjfppkhaiooloaaGreatDoor.Cp
open Go.AI
/-- The two ends of the edge have unlike colours. -/
def unlike (l : List (Int × Int)) (c : List Int) (j : Nat) : Prop := ∃ p, l[j]? = some p ∧ c[p.1.toNat]? ≠ c[p.2.toNat]?
def properG (n : Int) (l : List (Int × Int)) (c : List Int) (b : Bool) (code : Int) : Prop :=
  (¬ okG n l → b = false ∧ code = 1) ∧ (okG n l → (c.length : Int) ≠ n → b = false ∧ code = 270) ∧ (okG n l → (c.length : Int) = n → code = 0 ∧ (b = true ↔ ∀ j, j < l.length → unlike l c j))

theorem properG_same {n : Int} {l : List (Int × Int)} {c : List Int} {b b' : Bool} {k k' : Int} (h : properG n l c b k) (h' : properG n l c b' k') : b = b' ∧ k = k' := by
  by_cases h1 : okG n l
  · by_cases h2 : (c.length : Int) = n
    · obtain ⟨e1, e2⟩ := h.2.2 h1 h2
      obtain ⟨e1', e2'⟩ := h'.2.2 h1 h2
      exact ⟨Bool.eq_iff_iff.mpr (e2.trans e2'.symm), e1.trans e1'.symm⟩
    · obtain ⟨e1, e2⟩ := h.2.1 h1 h2
      obtain ⟨e1', e2'⟩ := h'.2.1 h1 h2
      exact ⟨e1.trans e1'.symm, e2.trans e2'.symm⟩
  · obtain ⟨e1, e2⟩ := h.1 h1
    obtain ⟨e1', e2'⟩ := h'.1 h1
    exact ⟨e1.trans e1'.symm, e2.trans e2'.symm⟩

theorem proper29 {E : Env} (hE : E.fn 29 = some a29) (hs : ∀ args s, E.spec 29 args s = none) (hE27 : E.fn 27 = some a27) (hs27 : ∀ args s, E.spec 27 args s = none) (hE91 : E.fn 91 = some a91) (hs91 : ∀ args s, E.spec 91 args s = none)
    (n : Int) (l : List (Int × Int)) (c : List Int) (ev cv : Value) (s : St) (hw : Wf s) (hl : Shows s ev 2 l.length (pairs l)) (hc : Shows s cv 1 c.length (ints c)) :
    EvCall E 29 [.agg #[.int .i64 n, ev], cv] s fun r s' => (∃ b k, r = .ret (.tuple #[.bool b, .int .i64 k]) ∧ properG n l c b k) ∧ Wf s' ∧ Keep No s s' := by
  refine evCall_w (hs _ _) hE ?_
  simp only [go_sem, Nat.reduceEqDiff, if_true, if_false, Nat.zero_add, Nat.add_zero, List.getElem?_cons_succ, List.getElem?_cons_zero, Bool.true_beq, Bool.false_beq, Bool.not_true, Bool.not_false, cond_true, cond_false, hl.oneCell]
  obtain ⟨w1, k1⟩ := new_ok hw (.cells [.int .i64 n, ev])
  have c1 := new_cells_self hw [.int .i64 n, ev]
  generalize s.new (.cells [.int .i64 n, ev]) = s1 at *
  simp only [go_sem, Nat.reduceEqDiff, if_true, if_false, Nat.zero_add, Nat.add_zero, List.getElem?_cons_succ, List.getElem?_cons_zero, Bool.true_beq, Bool.false_beq, Bool.not_true, Bool.not_false, cond_true, cond_false, c1]
  refine (valid27 hE27 hs27 hE91 hs91 n l ev s1 w1 (hl.keep k1)).mono ?_
  rintro r s2 ⟨⟨b, rfl, hb⟩, w2, k2⟩
  have c1 := k2.cellsNo c1
  have k02 := k1.trans k2
  cases b
  case false =>
    have hno : ¬ okG n l := fun h => by have := hb.2 h; cases this
    simp only [go_sem, Nat.reduceEqDiff, if_true, if_false, Nat.zero_add, Nat.add_zero, List.getElem?_cons_succ, List.getElem?_cons_zero, Bool.true_beq, Bool.false_beq, Bool.not_true, Bool.not_false, cond_true, cond_false, c1]
    exact ⟨⟨_, _, rfl, fun _ => ⟨rfl, rfl⟩, fun h => absurd h hno, fun h => absurd h hno⟩, w2, k02⟩
  have hok := hb.1 rfl
  have hc2 := hc.keep k02
  have hl2 := hl.keep k02
  simp only [go_sem, Nat.reduceEqDiff, if_true, if_false, Nat.zero_add, Nat.add_zero, List.getElem?_cons_succ, List.getElem?_cons_zero, Bool.true_beq, Bool.false_beq, Bool.not_true, Bool.not_false, cond_true, cond_false, c1, hc2.lenV]
  by_cases hlen : (c.length : Int) = n
  case neg =>
    have : ((c.length : Int) == n) = false := by simpa using hlen
    simp only [go_sem, Nat.reduceEqDiff, if_true, if_false, Nat.zero_add, Nat.add_zero, List.getElem?_cons_succ, List.getElem?_cons_zero, Bool.true_beq, Bool.false_beq, Bool.not_true, Bool.not_false, cond_true, cond_false, c1, bne, this]
    exact ⟨⟨_, _, rfl, fun h => absurd hok h, fun _ _ => ⟨rfl, rfl⟩, fun _ h => absurd h hlen⟩, w2, k02⟩
  have : ((c.length : Int) == n) = true := by simpa using hlen
  simp only [go_sem, Nat.reduceEqDiff, if_true, if_false, Nat.zero_add, Nat.add_zero, List.getElem?_cons_succ, List.getElem?_cons_zero, Bool.true_beq, Bool.false_beq, Bool.not_true, Bool.not_false, cond_true, cond_false, c1, bne, this]
  have hmb : l.length ≤ maxBytes := Nat.le_trans hok.2.2.1 (by decide)
  refine ev_loop (fun k fr s' => ∃ i tm, k = l.length - i ∧ i ≤ l.length ∧ fr = ⟨tm, []⟩ ∧ tm.get 1 = some cv ∧ tm.get 2 = some (.pointer (some ⟨s.next, 0, none⟩)) ∧ tm.get 7 = some (.int .i64 i) ∧
      s' = s2 ∧ ∀ j, j < i → unlike l c j) ⟨0, _, rfl, Nat.zero_le _, rfl, ?_⟩ ?_
  · simp only [go_sem, Nat.reduceEqDiff, if_true, if_false, Nat.zero_add, Nat.add_zero, List.getElem?_cons_succ, List.getElem?_cons_zero, Bool.true_beq, Bool.false_beq, Bool.not_true, Bool.not_false, cond_true, cond_false, true_and]
    exact ⟨rfl, fun j h => absurd h (by omega)⟩
  · rintro k fr s' ⟨i, tm, rfl, hi, rfl, g1, g2, g7, rfl, hun⟩
    apply w_sound
    simp only [go_sem, Nat.reduceEqDiff, if_true, if_false, Nat.zero_add, Nat.add_zero, List.getElem?_cons_succ, List.getElem?_cons_zero, Bool.true_beq, Bool.false_beq, Bool.not_true, Bool.not_false, cond_true, cond_false, g1, g2, g7, c1, hl2.lenV]
    by_cases hlt : (i : Int) < l.length
    · have hlt' : i < l.length := by omega
      obtain ⟨p, hp⟩ : ∃ p, l[i]? = some p := ⟨l[i], by simp [hlt']⟩
      obtain ⟨p', hp', r1, r2, r3, _⟩ := hok.2.2.2 i hlt'
      rw [hp] at hp'; cases hp'
      obtain ⟨q1, q2⟩ := pairs_get l i p hp
      have d1 := hl2.cell q1
      have d2 := hl2.cell q2
      obtain ⟨x, hx⟩ : ∃ x, c[p.1.toNat]? = some x := ⟨c[p.1.toNat], by rw [List.getElem?_eq_getElem]⟩
      obtain ⟨y, hy⟩ : ∃ y, c[p.2.toNat]? = some y := ⟨c[p.2.toNat], by rw [List.getElem?_eq_getElem]⟩
      have e1 := hc2.cell (j := p.1.toNat) (x := .int .i64 x) (by rw [ints_get, hx]; rfl)
      have e2 := hc2.cell (j := p.2.toNat) (x := .int .i64 y) (by rw [ints_get, hy]; rfl)
      simp only [hlt, decide_true, go_sem, Nat.reduceEqDiff, if_true, if_false, Nat.zero_add, Nat.add_zero, List.getElem?_cons_succ, List.getElem?_cons_zero, Bool.true_beq, Bool.false_beq, Bool.not_true, Bool.not_false, cond_true, cond_false, g1, g2, g7, c1]
      refine ev_drawn ?_
      simp only [go_sem, Nat.reduceEqDiff, if_true, if_false, Nat.zero_add, Nat.add_zero, List.getElem?_cons_succ, List.getElem?_cons_zero, Bool.true_beq, Bool.false_beq, Bool.not_true, Bool.not_false, cond_true, cond_false, g1, g2, g7, c1]
      rw [hl2.idx (by omega) hlt]
      simp only [go_sem, Nat.reduceEqDiff, if_true, if_false, Nat.zero_add, Nat.add_zero, List.getElem?_cons_succ, List.getElem?_cons_zero, Bool.true_beq, Bool.false_beq, Bool.not_true, Bool.not_false, cond_true, cond_false, Int.toNat_natCast, g1, g2, g7, c1, d1]
      rw [hc2.idx (by omega) (by omega)]
      simp only [go_sem, Nat.reduceEqDiff, if_true, if_false, Nat.zero_add, Nat.add_zero, List.getElem?_cons_succ, List.getElem?_cons_zero, Bool.true_beq, Bool.false_beq, Bool.not_true, Bool.not_false, cond_true, cond_false, Nat.mul_one, Int.toNat_natCast, g1, g2, g7, c1, e1]
      rw [hl2.idx (by omega) hlt]
      simp only [go_sem, Nat.reduceEqDiff, if_true, if_false, Nat.zero_add, Nat.add_zero, List.getElem?_cons_succ, List.getElem?_cons_zero, Bool.true_beq, Bool.false_beq, Bool.not_true, Bool.not_false, cond_true, cond_false, Nat.mul_one, Nat.add_assoc, Int.toNat_natCast, g1, g2, g7, c1, d2]
      rw [hc2.idx (by omega) (by omega)]
      simp only [go_sem, Nat.reduceEqDiff, if_true, if_false, Nat.zero_add, Nat.add_zero, List.getElem?_cons_succ, List.getElem?_cons_zero, Bool.true_beq, Bool.false_beq, Bool.not_true, Bool.not_false, cond_true, cond_false, Nat.mul_one, Int.toNat_natCast, g1, g2, g7, c1, e2]
      cases hxy : x == y
      case true =>
        simp only [go_sem, Nat.reduceEqDiff, if_true, if_false, Nat.zero_add, Nat.add_zero, List.getElem?_cons_succ, List.getElem?_cons_zero, Bool.true_beq, Bool.false_beq, Bool.not_true, Bool.not_false, cond_true, cond_false, g1, g2, g7, c1, hxy]
        refine ⟨⟨_, _, rfl, fun h => absurd hok h, fun _ h => absurd hlen h, fun _ _ => ⟨rfl, ?_⟩⟩, w2, k02⟩
        simp only [Bool.false_eq_true, false_iff]
        intro h
        obtain ⟨p', hp', hne⟩ := h i hlt'
        rw [hp] at hp'; cases hp'
        rw [hx, hy] at hne
        simp at hxy
        exact hne (by rw [hxy])
      case false =>
        simp only [go_sem, Nat.reduceEqDiff, if_true, if_false, Nat.zero_add, Nat.add_zero, List.getElem?_cons_succ, List.getElem?_cons_zero, Bool.true_beq, Bool.false_beq, Bool.not_true, Bool.not_false, cond_true, cond_false, g1, g2, g7, c1, hxy]
        refine ⟨l.length - (i + 1), by omega, i + 1, _, rfl, by omega, rfl, ?_⟩
        simp only [go_sem, Nat.reduceEqDiff, if_true, if_false, Nat.zero_add, Nat.add_zero, List.getElem?_cons_succ, List.getElem?_cons_zero, Bool.true_beq, Bool.false_beq, Bool.not_true, Bool.not_false, cond_true, cond_false, g1, g2, true_and]
        refine ⟨by rw [wrap_succ hlt' hmb], fun j hj => ?_⟩
        by_cases hji : j = i
        · refine ⟨p, by rw [hji]; exact hp, ?_⟩
          rw [hx, hy]
          simpa using hxy
        · exact hun j (by omega)
    · have hil : i = l.length := by omega
      simp only [hlt, decide_false, go_sem, Nat.reduceEqDiff, if_true, if_false, Nat.zero_add, Nat.add_zero, List.getElem?_cons_succ, List.getElem?_cons_zero, Bool.true_beq, Bool.false_beq, Bool.not_true, Bool.not_false, cond_true, cond_false]
      exact ⟨⟨_, _, rfl, fun h => absurd hok h, fun _ h => absurd hlen h, fun _ _ => ⟨rfl, by simp only [true_iff]; exact fun j hj => hun j (by omega)⟩⟩, w2, k02⟩
end Go.Proofs.YtjfppkhaiooloaaGreatDoor.Cp
