import Derived.Test.YtjfppkhaiooloaaGreatDoorAiSl
import Derived.Test.YtjfppkhaiooloaaGreatDoorAiWd
import Derived.Test.YtjfppkhaiooloaaGreatDoorCpCd0
set_option linter.unusedSimpArgs false
namespace Go.Proofs.YtjfppkhaiooloaaGreatDoor.Cp
open Go.AI
theorem copy26 {E : Env} (hE : E.fn 26 = some a26) (hs : ∀ args s, E.spec 26 args s = none) (n : Int) (l : List (Int × Int)) (ev : Value) (s : St) (hw : Wf s) (hl : Shows s ev 2 l.length (pairs l)) (hb : l.length * 16 ≤ maxBytes) :
    EvCall E 26 [.agg #[.int .i64 n, ev]] s fun r s' => ∃ v, r = .ret (.agg #[.int .i64 n, v]) ∧ Wf s' ∧ Keep No s s' ∧ Grows s s' v 2 l.length (pairs l) := by
  refine evCall_w (hs _ _) hE ?_
  simp only [go_sem, Nat.reduceEqDiff, if_true, if_false, hl.oneCell]
  obtain ⟨w1, k1⟩ := new_ok hw (.cells [.int .i64 n, ev])
  have c1 := new_cells_self hw [.int .i64 n, ev]
  have n1 : (s.new (.cells [.int .i64 n, ev])).next = s.next + 1 := rfl
  generalize s.new (.cells [.int .i64 n, ev]) = s1 at *
  obtain ⟨w2, k2⟩ := new_ok w1 (.cells [.int .i64 0, .slice none 0 0])
  have o2 := new_own w1 [.int .i64 0, .slice none 0 0]
  generalize s1.new (.cells [.int .i64 0, .slice none 0 0]) = s2 at *
  rw [n1] at o2
  have k02 := k1.trans k2
  have c1 := k2.cellsNo c1
  have hl2 := hl.keep k02
  refine ev_loop (fun k fr s' => ∃ i v tm, k = l.length - i ∧ i ≤ l.length ∧ fr = ⟨tm, []⟩ ∧ tm.get 1 = some (.pointer (some ⟨s.next, 0, none⟩)) ∧ tm.get 2 = some (.pointer (some ⟨s.next + 1, 0, none⟩)) ∧ tm.get 3 = some v ∧ tm.get 4 = some (.int .i64 i) ∧
      Wf s' ∧ Keep No s2 s' ∧ Grows s2 s' v 2 i (pairs (l.take i))) ⟨0, .slice none 0 0, _, rfl, Nat.zero_le _, rfl, ?_⟩ ?_
  · simp only [go_sem, Nat.reduceEqDiff, if_true, if_false, true_and, w2]
    exact ⟨rfl, Keep.refl _ _, grows_nil ..⟩
  · rintro k fr s' ⟨i, v, tm, rfl, hi, rfl, h1, h2, h3, h4, w', k', g⟩
    apply w_sound
    have c1' := k'.cellsNo c1
    have hl' := hl2.keep k'
    simp only [go_sem, Nat.reduceEqDiff, if_true, if_false, h1, h2, h3, h4, c1', List.getElem?_cons_succ, List.getElem?_cons_zero, hl'.lenV]
    by_cases hlt : (i : Int) < l.length
    · have hlt' : i < l.length := by omega
      simp only [hlt, decide_true, go_sem, Nat.reduceEqDiff, if_true, if_false, h1, h2, h3, h4, c1', List.getElem?_cons_succ, List.getElem?_cons_zero]
      rw [hl'.idx (by omega) hlt]
      obtain ⟨p, hp⟩ : ∃ p, l[i]? = some p := ⟨l[i], by simp [hlt']⟩
      have hload := hl'.cells (j := i * 2) (m := 2) (by omega) (by omega)
      rw [pairs_cut l i p hp] at hload
      simp only [go_sem, Nat.reduceEqDiff, if_true, if_false, Int.toNat_natCast, hload]
      obtain ⟨w3, k3⟩ := new_ok w' (.cells [.int .i64 p.1, .int .i64 p.2])
      have o3 := new_own w' [.int .i64 p.1, .int .i64 p.2]
      generalize s'.new (.cells [.int .i64 p.1, .int .i64 p.2]) = s3 at *
      obtain ⟨v', s4, ha, w4, k4, g4⟩ := (g.keep w' k3).append (bytes := 16) w3 w2 (k'.trans k3) (shows_own (n := 1) (size := 2) (e := true) o3 rfl) (by omega) (by omega) (by omega)
      simp only [go_sem, Nat.reduceEqDiff, if_true, if_false, h3, h4, ha]
      refine ⟨l.length - (i + 1), by omega, i + 1, v', _, rfl, by omega, rfl, ?_⟩
      have e1 : pairs (l.take (i + 1)) = pairs (l.take i) ++ [.int .i64 p.1, .int .i64 p.2] := by
        rw [List.take_add_one, hp, pairs_append]; rfl
      simp only [go_sem, Nat.reduceEqDiff, if_true, if_false, h1, h2, e1, true_and, w4, k4]
      exact ⟨by rw [wrap_succ hlt' (by omega)], g4⟩
    · have hil : i = l.length := by omega
      subst hil
      obtain ⟨s4, hst, w4, n4, o4, k4⟩ := store_own (off := 0) w' (o2.keep w2 k' id) (v := .agg #[.int .i64 n, v]) (vs := [.int .i64 n, v]) rfl (by simp only [go_sem, Nat.reduceEqDiff, if_true, if_false, Nat.zero_add, Nat.add_zero, g.shows.oneCell]) (by simp)
      have hst : storeV s' 2 (.pointer (some ⟨s.next + 1, 0, none⟩)) (.agg #[.int .i64 n, v]) = some (Go.undef, s4) := hst
      have c4 : s4.cells? (s.next + 1) = some [.int .i64 n, v] := o4.cells
      simp only [hlt, decide_false, go_sem, Nat.reduceEqDiff, if_true, if_false, Nat.zero_add, Nat.add_zero, h1, h2, h3, h4, c1', List.getElem?_cons_succ, List.getElem?_cons_zero, build_two (oneCell_int _ _) g.shows.oneCell, hst, c4]
      have n2 : s.next + 1 < s2.next := by have := (o2.lt w2).1; omega
      refine ⟨v, rfl, w4, (k02.trans k').fresh k4 (fun g hg => by omega) hw, ?_⟩
      have g4 := (g.keepF w' k4 (fun f hf hx => by omega)).weaken (s0 := s) (by omega)
      rw [List.take_length] at g4
      exact g4
end Go.Proofs.YtjfppkhaiooloaaGreatDoor.Cp
