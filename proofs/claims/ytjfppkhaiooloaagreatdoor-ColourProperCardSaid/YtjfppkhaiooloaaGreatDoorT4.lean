import Derived.Test.YtjfppkhaiooloaaGreatDoorT30
import Derived.Test.YtjfppkhaiooloaaGreatDoorT26
import Derived.Test.YtjfppkhaiooloaaGreatDoorAiSm
set_option linter.unusedSimpArgs false
namespace Go.Proofs.YtjfppkhaiooloaaGreatDoor.Cp
open Go.AI
theorem law4 {E : Env} {G : List Value} (hE4 : E.fn 4 = some a4) (hE26 : E.fn 26 = some a26) (hE27 : E.fn 27 = some a27) (hE29 : E.fn 29 = some a29) (hE30 : E.fn 30 = some a30) (hE91 : E.fn 91 = some a91) (hE92 : E.fn 92 = some a92) (hE154 : E.fn 154 = some a154)
    (hs : ∀ f args s, f ≠ 24 → E.spec f args s = none) (hk : ∀ s, s.ent? 0 = some ⟨.cells G, 0, 0, true⟩ → E.spec 24 [] s = some (some (.ret (.bool true), s)))
    (n : Int) (l : List (Int × Int)) (c : List Int) (ev cv : Value) (s : St) (hw : Wf s) (hg : s.ent? 0 = some ⟨.cells G, 0, 0, true⟩) (hl : Shows s ev 2 l.length (pairs l)) (hc : Shows s cv 1 c.length (ints c)) (hlb : l.length * 16 ≤ maxBytes) (hcb : c.length * 8 ≤ maxBytes) :
    EvCall E 4 [.agg #[.int .i64 n, ev], cv] s fun r _ => r = .ret (.bool true) := by
  have h26 := fun a s => hs 26 a s (by decide)
  have h27 := fun a s => hs 27 a s (by decide)
  have h29 := fun a s => hs 29 a s (by decide)
  have h30 := fun a s => hs 30 a s (by decide)
  have h91 := fun a s => hs 91 a s (by decide)
  have h92 := fun a s => hs 92 a s (by decide)
  have h154 := fun a s => hs 154 a s (by decide)
  refine evCall_w (hs 4 _ _ (by decide)) hE4 ?_
  simp only [go_sem, Nat.reduceEqDiff, if_true, if_false, Nat.zero_add, Nat.add_zero, List.getElem?_cons_succ, List.getElem?_cons_zero, Bool.true_beq, Bool.false_beq, Bool.not_true, Bool.not_false, cond_true, cond_false, hl.oneCell]
  obtain ⟨w1, k1⟩ := new_ok hw (.cells [.int .i64 n, ev])
  have c1 := new_cells_self hw [.int .i64 n, ev]
  generalize s.new (.cells [.int .i64 n, ev]) = s1 at *
  have hg1 := k1.ent _ _ hg id
  refine evCall_spec (r := .ret (.bool true)) (s' := s1) (hk s1 hg1) ?_
  simp only [go_sem, Nat.reduceEqDiff, if_true, if_false, Nat.zero_add, Nat.add_zero, List.getElem?_cons_succ, List.getElem?_cons_zero, Bool.true_beq, Bool.false_beq, Bool.not_true, Bool.not_false, cond_true, cond_false, c1]
  refine (copy26 hE26 h26 n l ev s1 w1 (hl.keep k1) hlb).mono ?_
  rintro r s2 ⟨v, rfl, w2, k2, g2⟩
  simp only [go_sem, Nat.reduceEqDiff, if_true, if_false, Nat.zero_add, Nat.add_zero, List.getElem?_cons_succ, List.getElem?_cons_zero, Bool.true_beq, Bool.false_beq, Bool.not_true, Bool.not_false, cond_true, cond_false, hc.oneCell]
  obtain ⟨w3, k3⟩ := new_ok w2 (.cells [])
  have g3 := grows_empty (s0 := s2) w2 1 (Nat.le_refl _)
  generalize s2.new (.cells []) = s3 at *
  have k03 : Keep No s s3 := (k1.trans k2).trans k3
  obtain ⟨v', s4, ha, w4, k4, g4⟩ := g3.append' (bytes := 8) w3 w2 k3 (hc.keep k03) (by omega) (by omega)
  rw [List.nil_append, Nat.zero_add] at g4
  simp only [go_sem, Nat.reduceEqDiff, if_true, if_false, Nat.zero_add, Nat.add_zero, List.getElem?_cons_succ, List.getElem?_cons_zero, Bool.true_beq, Bool.false_beq, Bool.not_true, Bool.not_false, cond_true, cond_false, ha]
  refine (proper30 hE30 h30 hE92 h92 hE154 h154 n l c v v' s4 w4 (g2.keep w2 k4).shows g4.shows).mono ?_
  rintro r s5 ⟨⟨b, k, rfl, hp⟩, w5, k5⟩
  have k05 : Keep No s1 s5 := (k2.trans k4).trans k5
  have c1 := k05.cellsNo c1
  have k05' : Keep No s s5 := k1.trans k05
  simp only [go_sem, Nat.reduceEqDiff, if_true, if_false, Nat.zero_add, Nat.add_zero, List.getElem?_cons_succ, List.getElem?_cons_zero, Bool.true_beq, Bool.false_beq, Bool.not_true, Bool.not_false, cond_true, cond_false, c1]
  refine (proper29 hE29 h29 hE27 h27 hE91 h91 n l c ev cv s5 w5 (hl.keep k05') (hc.keep k05')).mono ?_
  rintro r s6 ⟨⟨b', k', rfl, hp'⟩, w6, k6⟩
  obtain ⟨rfl, rfl⟩ := properG_same hp hp'
  simp only [go_sem, Nat.reduceEqDiff, if_true, if_false, Nat.zero_add, Nat.add_zero, List.getElem?_cons_succ, List.getElem?_cons_zero, Bool.true_beq, Bool.false_beq, Bool.not_true, Bool.not_false, cond_true, cond_false]
  cases b <;> simp [go_sem]
end Go.Proofs.YtjfppkhaiooloaaGreatDoor.Cp
