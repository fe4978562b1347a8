/- The queue's methods behind an interface. -/
import Derived.Test.YtjfppkhaiooloaaGreatDoorBase
import Derived.Test.YtjfppkhaiooloaaGreatDoorCpEnv
import Derived.Test.YtjfppkhaiooloaaGreatDoorAiXm
namespace Go.Proofs.YtjfppkhaiooloaaGreatDoor.Cp
open Go.AI
set_option maxRecDepth 100000
theorem info114 : Tryz.prog.info? 114 = some Tryz.t114 := by
  have h := Tryz.type114
  unfold Tables.info?
  rw [if_pos (Array.getElem?_eq_some_iff.1 h).1]; exact h
theorem ty109 : ∃ i, tyOf Tryz.prog 109 = some i ∧ i.agg = false := by
  have h : (tyOf Tryz.prog 109).map (·.agg) = some false := by kernel_rfl
  simpa using h
theorem meth_ok : MethOk Tryz.prog meth := by
  obtain ⟨i, hi, hg⟩ := ty109
  have hsz : ∃ d, Tryz.prog.types.size + Made.depth = d + 1 := by
    have := (Array.getElem?_eq_some_iff.1 Tryz.type114).1
    exact ⟨Tryz.prog.types.size + Made.depth - 1, by omega⟩
  obtain ⟨d, hd⟩ := hsz
  intro t n f how h v w
  rw [hd]
  by_cases ht : t = 114
  · subst ht
    by_cases h0 : n = "Swap"
    · subst h0
      obtain ⟨rfl, rfl⟩ : 400 = f ∧ some (false, 1) = how := by simpa [meth] using h
      rintro a q rfl hl
      exact meth_val info114 (by simp [Tryz.t114]; rfl) rfl rfl Tryz.underlying114 hi hg typesOk d a q w hl
    by_cases h1 : n = "Push"
    · subst h1
      obtain ⟨rfl, rfl⟩ : 402 = f ∧ none = how := by simpa [meth] using h
      exact meth_ptr info114 (by simp [Tryz.t114]; rfl) rfl rfl Tryz.underlying114 d v w
    by_cases h2 : n = "Pop"
    · subst h2
      obtain ⟨rfl, rfl⟩ : 401 = f ∧ none = how := by simpa [meth] using h
      exact meth_ptr info114 (by simp [Tryz.t114]; rfl) rfl rfl Tryz.underlying114 d v w
    by_cases h3 : n = "Less"
    · subst h3
      obtain ⟨rfl, rfl⟩ : 399 = f ∧ some (false, 1) = how := by simpa [meth] using h
      rintro a q rfl hl
      exact meth_val info114 (by simp [Tryz.t114]; rfl) rfl rfl Tryz.underlying114 hi hg typesOk d a q w hl
    by_cases h4 : n = "Len"
    · subst h4
      obtain ⟨rfl, rfl⟩ : 95 = f ∧ some (false, 1) = how := by simpa [meth] using h
      rintro a q rfl hl
      exact meth_val info114 (by simp [Tryz.t114]; rfl) rfl rfl Tryz.underlying114 hi hg typesOk d a q w hl
    have b0 : (n == "Swap") = false := by simpa using h0
    have b1 : (n == "Push") = false := by simpa using h1
    have b2 : (n == "Pop") = false := by simpa using h2
    have b3 : (n == "Less") = false := by simpa using h3
    have b4 : (n == "Len") = false := by simpa using h4
    simp only [meth, b0, b1, b2, b3, b4, Bool.and_false, cond_false] at h
    cases h
  · exfalso
    have : Nat.beq t 114 = false := nbeq_false ht
    simp [meth, this] at h
end Go.Proofs.YtjfppkhaiooloaaGreatDoor.Cp
