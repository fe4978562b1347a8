/- The law GridSizes: the call returns true for every whole number, and nothing that was there has turned. Conditions: the package-level variable tangram/lr.empty starts as the program's text lays it (the tied card); nothing else. How: an abstract interpreter of the model's programs is proved sound (AiA, AiB); the program's code is brought into it, and checked (GsEnv); the kernel runs the closed call 'wakes' (GsKA); the two functions are walked. -/
import Derived.Test.YtjfppkhaiooloaaGreatDoorAiXs
import Derived.Test.YtjfppkhaiooloaaGreatDoorGsEnv
import Derived.Test.YtjfppkhaiooloaaGreatDoorBase
import Derived.Test.YtjfppkhaiooloaaGreatDoorGsKA
import Derived.Test.YtjfppkhaiooloaaGreatDoorFacts
set_option linter.unusedSimpArgs false
namespace Go.Proofs.YtjfppkhaiooloaaGreatDoor.Gs
open Go.AI
/-- How wide and high, for both. -/
def wide (n : Int) : Int := if n = 2 then 1 else if 3 ≤ n ∧ n ≤ 1048576 then IntKind.i64.wrap (IntKind.i64.wrap (2 * n) - 4) else 0
def high (n : Int) : Int := if n = 2 then 0 else if 3 ≤ n ∧ n ≤ 1048576 then IntKind.i64.wrap (n - 2) else 0
theorem wide2 : wide 2 = 1 := rfl
theorem high2 : high 2 = 0 := rfl
theorem wide_in {n : Int} (h2 : ¬ n = 2) (h3 : 3 ≤ n) (h4 : n ≤ 1048576) : wide n = IntKind.i64.wrap (IntKind.i64.wrap (2 * n) - 4) := by unfold wide; rw [if_neg h2, if_pos ⟨h3, h4⟩]
theorem high_in {n : Int} (h2 : ¬ n = 2) (h3 : 3 ≤ n) (h4 : n ≤ 1048576) : high n = IntKind.i64.wrap (n - 2) := by unfold high; rw [if_neg h2, if_pos ⟨h3, h4⟩]
theorem wide_out {n : Int} (h2 : ¬ n = 2) (h3 : ¬ (3 ≤ n ∧ n ≤ 1048576)) : wide n = 0 := by unfold wide; rw [if_neg h2, if_neg h3]
theorem high_out {n : Int} (h2 : ¬ n = 2) (h3 : ¬ (3 ≤ n ∧ n ≤ 1048576)) : high n = 0 := by unfold high; rw [if_neg h2, if_neg h3]
section
variable {E : Env}
theorem size83 (hE : E.fn 83 = some a83) (hs : ∀ args s, E.spec 83 args s = none) (n : Int) (s : St) : EvCall E 83 [.int .i64 n] s fun r s' => s' = s ∧ r = .ret (.tuple #[.int .i64 (wide n), .int .i64 (high n)]) := by
  refine evCall_of (hs _ _) hE (w_sound _ _ _ _ ?_)
  by_cases h2 : n = 2
  · subst h2
    simp only [a83, go_sem, Nat.reduceEqDiff, if_true, if_false, beq_self_eq_true, wide2, high2, and_self]
  · have e2 : (n == 2) = false := by simpa using h2
    by_cases h3 : 3 ≤ n
    · by_cases h4 : n ≤ 1048576
      · simp only [a83, go_sem, Nat.reduceEqDiff, if_true, if_false, beq_self_eq_true, e2, h3, h4, decide_true, cond_true, wide_in h2 h3 h4, high_in h2 h3 h4, and_self]
      · have h5 : ¬ (3 ≤ n ∧ n ≤ 1048576) := fun h => h4 h.2
        simp only [a83, go_sem, Nat.reduceEqDiff, if_true, if_false, beq_self_eq_true, e2, h3, h4, decide_true, decide_false, cond_true, cond_false, wide_out h2 h5, high_out h2 h5, and_self]
    · have h5 : ¬ (3 ≤ n ∧ n ≤ 1048576) := fun h => h3 h.1
      simp only [a83, go_sem, Nat.reduceEqDiff, if_true, if_false, e2, h3, decide_false, cond_false, wide_out h2 h5, high_out h2 h5, and_self, Bool.false_beq, Bool.not_true]
theorem size84 (hE : E.fn 84 = some a84) (hs : ∀ args s, E.spec 84 args s = none) (n : Int) (s : St) : EvCall E 84 [.int .i64 n] s fun r s' => s' = s ∧ r = .ret (.tuple #[.int .i64 (wide n), .int .i64 (high n)]) := by
  refine evCall_of (hs _ _) hE (w_sound _ _ _ _ ?_)
  by_cases h2 : n = 2
  · subst h2
    simp only [a84, go_sem, Nat.reduceEqDiff, if_true, if_false, beq_self_eq_true, wide2, high2, and_self]
  · have e2 : (n == 2) = false := by simpa using h2
    by_cases h3 : 3 ≤ n
    · by_cases h4 : n ≤ 1048576
      · simp only [a84, go_sem, Nat.reduceEqDiff, if_true, if_false, beq_self_eq_true, e2, h3, h4, decide_true, cond_true, wide_in h2 h3 h4, high_in h2 h3 h4, and_self]
      · have h5 : ¬ (3 ≤ n ∧ n ≤ 1048576) := fun h => h4 h.2
        simp only [a84, go_sem, Nat.reduceEqDiff, if_true, if_false, beq_self_eq_true, e2, h3, h4, decide_true, decide_false, cond_true, cond_false, wide_out h2 h5, high_out h2 h5, and_self]
    · have h5 : ¬ (3 ≤ n ∧ n ≤ 1048576) := fun h => h3 h.1
      simp only [a84, go_sem, Nat.reduceEqDiff, if_true, if_false, e2, h3, decide_false, cond_false, wide_out h2 h5, high_out h2 h5, and_self, Bool.false_beq, Bool.not_true]
end
noncomputable def envK : Env := withKnown env glob [(82, true)]
theorem no_spec {f : Nat} (h : f ≠ 82) (args : List Value) (s : St) : envK.spec f args s = none := by
  show knownSpec glob [(82, true)] f args s = none
  cases args with
  | nil =>
    show optE (ifB (Nat.beq 82 f) (some true) none) none _ = none
    rw [nbeq_false (fun e => h e.symm)]; rfl
  | cons _ _ => rfl
theorem law22 (n : Int) (s : St) (hg : s.ent? 0 = some ⟨.cells glob, 0, 0, true⟩) : EvCall envK 22 [.int .i64 n] s fun r s' => s' = s ∧ r = .ret (.bool true) := by
  refine evCall_of (no_spec (by decide) _ _) rfl (w_sound _ _ _ _ ?_)
  simp only [a22, go_sem, Nat.reduceEqDiff, if_true, if_false]
  refine evCall_spec (r := .ret (.bool true)) (s' := s) (known_spec rfl hg) ?_
  simp only [go_sem, Nat.reduceEqDiff, if_true, if_false, Bool.not_true]
  refine (size83 rfl (fun _ _ => no_spec (by decide) _ _) n s).mono ?_
  rintro _ _ ⟨rfl, rfl⟩
  simp only [go_sem, Nat.reduceEqDiff, if_true, if_false, List.getElem?_cons_zero, List.getElem?_cons_succ]
  refine (size84 rfl (fun _ _ => no_spec (by decide) _ _) n _).mono ?_
  rintro _ _ ⟨rfl, rfl⟩
  simp only [go_sem, Nat.reduceEqDiff, if_true, if_false, List.getElem?_cons_zero, List.getElem?_cons_succ, beq_self_eq_true, cond_true, and_self]
theorem envOk0 (B0 : Nat) : EnvOk Tryz.prog (tyOf Tryz.prog) env B0 := envOk (fun _ => rfl) fnOk MethOk.none (fun _ _ _ _ h => by cases h)
theorem envOkK (B0 : Nat) : EnvOk Tryz.prog (tyOf Tryz.prog) envK B0 := by
  refine known_ok typesOk mixed envOk0 glob_plain (fun p hp => ?_) B0
  simp only [List.mem_cons, List.mem_nil_iff, or_false] at hp
  subst hp
  obtain ⟨s1, h⟩ := flagOf_eq k82
  exact ⟨env, 100000, s1, envOk0, h⟩
end Go.Proofs.YtjfppkhaiooloaaGreatDoor.Gs
namespace Go.Proofs.YtjfppkhaiooloaaGreatDoor
open Go.AI Go.ChangeShapes Go.WideShapes Go.ChangeAt Go.WideMaps Go.WideElems Go.RowKit
open Go.Proofs.YtjfppkhaiooloaaGreatDoor.Gs
theorem gridSizes_calls {W : World} (hL : laidMetH Tryz.prog laid1 W) (n : Int) : Calls Tryz.prog 22 #[.int .i64 n] W fun e W' => e = .returned (.bool true) ∧ Below W.heap.size W W' := by
  obtain ⟨cs, elem, h1, h2⟩ := laid_empty hL
  have hR : Rel (LoopLR (tyOf Tryz.prog) envK) W.heap.size (fun i => [(⟨0, 0, 2⟩ : Go.AI.Loc)][i]?) (startS [glob]) W := by
    refine Rel.start [glob] [⟨0, 0, 2⟩] rfl fun i c l hc hl => ?_
    cases i with
    | zero => cases hc; cases hl; exact glob_obj h1 h2
    | succ i => cases hc
  exact ev_calls typesOk mixed (envOkK W.heap.size) ((law22 n (startS [glob]) (by rw [startS_ent]; rfl)).mono fun r s h => h.2) hR ⟨2, rfl⟩ (args' := [.int .i64 n]) (.cons (.int _ _) .nil)
set_option maxRecDepth 100000 in
theorem gridSizes_lifted (os : Os) (started : os.Started) (H : Type) (enc : TypeId × Value → H) :
    ReturnsInHanded {} Tryz.checked os 22 .any (fun w args => (Rows.gridSizesSpec.pre enc Tryz.prog Tryz.f22 [] false w args ∧ laidMetH Tryz.prog laid1 w) ∧ sizedMet enc Tryz.prog Tryz.f22 (OpenSpec.ofChange Rows.gridSizesSpec) false w args)
      (Rows.gridSizesSpec.post enc Tryz.prog Tryz.f22 false true false false) := by
  refine returnsInHanded_of_change_and (C := Tryz.checked) (X := fun w _ => laidMetH Tryz.prog laid1 w) (fun _ _ _ hh h => h.of_heap hh) own started (by kernel_rfl) Tryz.func22
    (ChangeSpec.witness_shaped (enc := enc) (C := Tryz.checked) (os := os) (X := fun w _ => laidMetH Tryz.prog laid1 w) false (World.doorLaid Tryz.prog 400 os) #[.int .i64 0] 8 rfl (World.shaped_of_RefB (by kernel_rfl) (by kernel_rfl)) (by kernel_rfl) (by kernel_rfl) (by kernel_rfl) (door_met os _)) ?_
  intro W base args ds gs before hval0 hW _ _ hL _
  have hval : ∀ (j : Nat) t v, Tryz.f22.params[j]? = some t → args[j]? = some v → Value.okWide Tryz.prog W .any base t v := hval0
  have hW' := hW
  obtain ⟨p, q, hA0, hV, rfl, hfz, hnd⟩ := hW
  have hA : DataW.TrodAll enc Tryz.prog W 0 (fun _ => true) true Tryz.f22.params.toList args.toList ds p := hA0
  rw [Tryz.params22] at hA hval
  obtain ⟨v0, vs0, d0, ds0, p0, q0, hargs, rfl, rfl, h0, r0⟩ := trodAll_cons hA
  obtain ⟨rfl, rfl, rfl⟩ := trodAll_nil r0
  obtain rfl : args = #[v0] := by cases args; simp_all
  obtain ⟨a0, rfl, rfl, rfl, w0⟩ := open_int Tryz.underlying3 (hval 0 3 v0 rfl rfl) h0
  refine (gridSizes_calls hL a0).mono fun e W' ⟨he, hb⟩ => ?_
  subst he
  exact ⟨_, rfl, law_post laidOut (by rw [Tryz.params22]; intro t ht; simp at ht; subst ht; exact ⟨by kernel_rfl, of_decide_eq_true (by kernel_rfl)⟩) (t := 4) rfl Tryz.underlying4 rfl hW' rfl hb⟩
set_option maxRecDepth 100000
theorem closure22 : Tryz.prog.closure 22 = [22, 82, 83, 144, 85, 47, 52, 106, 88, 92, 154, 151, 165, 166, 167, 169, 93, 155, 284, 329, 168, 170, 171, 172, 173, 158, 98, 113, 192, 174, 285, 286, 287, 193, 194, 294, 195, 295, 296, 197, 299, 196, 297, 331, 298, 307, 343, 344, 332, 351, 357, 317, 352, 374, 353, 361, 362, 354, 375, 376, 381, 355, 356, 358, 359, 199, 198, 300, 114, 176, 200, 177, 301, 303, 333, 334, 201, 302, 304, 115, 108, 179, 288, 180, 181, 182, 289, 330, 183, 290, 291, 184, 145, 126, 256, 257, 309, 345, 310, 258, 53, 117, 118, 203, 204, 205, 116, 202, 55, 119, 125, 255, 272, 273, 318, 319, 274, 320, 321, 275, 322, 324, 271, 270, 323, 350, 366, 367, 378, 368, 369, 379, 380, 382, 370, 371, 372, 373, 146, 276, 325, 131, 326, 277, 278, 279, 327, 147, 280, 328, 148, 281, 84] := by kernel_rfl
theorem named22 : Tryz.prog.funcNamed "tangram/tangramlaw25.GridSizes" = some 22 := by kernel_rfl
theorem facts22 : joinedFacts Tryz.prog 22 Tryz.f22 Rows.gridSizesSpec Rows.gridSizesRow = true :=
  row_facts closure22 (by kernel_rfl) (by kernel_rfl) rfl rfl (by kernel_rfl) (by kernel_rfl) (by kernel_rfl) (by kernel_rfl) (by kernel_rfl) (by kernel_rfl) (by kernel_rfl) (by kernel_rfl) (by kernel_rfl) (by kernel_rfl) (by kernel_rfl) (by kernel_rfl) (by kernel_rfl) (by kernel_rfl) (by kernel_rfl) (by kernel_rfl) (by kernel_rfl) (by kernel_rfl) (by kernel_rfl) (by kernel_rfl) rfl rfl rfl
theorem gridSizes_row : Rows.GridSizesSaid :=
  OpenClaim.holds_of_wide 22 Tryz.f22 rfl rfl rfl rfl rfl rfl rfl ⟨rfl, rfl, rfl, rfl, rfl⟩ rfl rfl rfl rfl rfl named22 Tryz.func22 facts22
    (of_decide_eq_true (by kernel_rfl)) (by unfold Func.isWrapper; first | (rw [if_pos (by decide +kernel)]; kernel_rfl) | (rw [if_neg (by decide +kernel)]; exact ⟨rfl, rfl⟩))
    (fun os started H enc _ => gridSizes_lifted os started H enc)
theorem gridSizes_holds : Rows.GridSizesCardSaid :=
  Claim7.holds_tied_plain_at .later [] [.data] true (true, "616e14b79dddb718d9b7f0eb40e9a4e6db67c4ceb66c2f56635212fa935b5525") true
    gridSizes_row (fun _ h => by cases h) (by kernel_rfl) (fun _ h => by cases h) gridSizes_row_tie rfl ⟨rfl, rfl⟩ main_is rfl
    (fun f fn hf hfn => by
      obtain rfl : f = 22 := Option.some.inj (named22.symm.trans hf) |>.symm
      obtain rfl : fn = Tryz.f22 := (Option.some.inj (Tryz.func22.symm.trans hfn)).symm
      exact ⟨looks_true, fun j t ht => by
        rw [Tryz.params22] at ht
        have hm : t ∈ [3] := by simpa using Array.mem_of_getElem? ht
        have hall : ([3].all fun u => !Tryz.prog.wantsStandIn u) = true := by kernel_rfl
        exact (show Tryz.prog.wantsStandIn t = false by simpa using List.all_eq_true.1 hall t hm)⟩)
    (goes_by _ rfl)
#print axioms gridSizes_holds
end Go.Proofs.YtjfppkhaiooloaaGreatDoor
