/- Walks: more of slices: nothing appended; an empty one of one's own. -/
import Derived.Test.YtjfppkhaiooloaaGreatDoorAiSl
namespace Go.AI

theorem grows_empty {s0 s : St} (hw : Wf s) (size : Nat) (h : s0.next ≤ s.next) : Grows s0 (s.new (.cells [])) (.slice (some ⟨s.next, 0, mkSpot size true⟩) 0 0) size 0 [] :=
  ⟨by simp, .inr ⟨_, _, true, rfl, new_own hw [], h⟩⟩

/-- An append, of nothing too. -/
theorem Grows.append' {s0 s : St} {v y : Value} {size bytes n m : Nat} {cs new : List Value} (h : Grows s0 s v size n cs) (hw : Wf s) (hw0 : Wf s0) (hk : Keep No s0 s) (hy : Shows s y size m new) (hsz : 0 < size) (hb : (n + m) * bytes ≤ maxBytes) :
    ∃ v' s', appendV s size bytes v y = some (v', s') ∧ Wf s' ∧ Keep No s0 s' ∧ Grows s0 s' v' size (n + m) (cs ++ new) := by
  by_cases hm : 0 < m
  · exact h.append hw hw0 hk hy hm hsz hb
  obtain rfl : m = 0 := by omega
  have hnew : new = [] := List.eq_nil_of_length_eq_zero (by simpa using hy.len)
  subst hnew
  obtain ⟨b, cap, rfl, hsh⟩ := hy.shown
  rw [List.append_nil, Nat.add_zero]
  have h0 := h
  obtain ⟨hl, h | ⟨i, f, e, rfl, ho, hf⟩⟩ := h
  · obtain ⟨rfl, rfl⟩ := h
    refine ⟨_, s, ?_, hw, hk, h0⟩
    unfold appendV
    simp only [addrSize, ifB_true, hsh, optE_some]
    rfl
  · obtain ⟨s', h1, h2, h3, h4, h5⟩ := put_own hw ho cs
    refine ⟨.slice (some ⟨i, 0, mkSpot size e⟩) n n, s', ?_, h2, hk.fresh h5 (fun g hg => by subst hg; exact hf) hw0, hl, .inr ⟨i, f, e, rfl, h4, hf⟩⟩
    unfold appendV
    simp only [addrSize, spot_same, ifB_true, hsh, optE_some]
    unfold appendTo
    have hbl : Nat.ble (n + 0) n = true := by rw [Nat.ble_eq]; exact Nat.le_refl _
    rw [hbl, ifB_true]
    unfold roomTo St.write
    simp only [ho.cells, optE_some]
    have hb : Nat.ble (0 + n * size + 0) cs.length = true := by rw [Nat.ble_eq]; omega
    unfold over
    simp only [List.length_nil, hb, ifB_true, optE_some]
    have : cs.take (0 + n * size) ++ ([] ++ cs.drop (0 + n * size + 0)) = cs := by simp
    rw [this, h1]
    rfl

@[go_sem] theorem build_none (z : List Value) (K : List Value → VS) : buildV (repeatN z 0) [] [] K = K [] := (rfl)

end Go.AI
