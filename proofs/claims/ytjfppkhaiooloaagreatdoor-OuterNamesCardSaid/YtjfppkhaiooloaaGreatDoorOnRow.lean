/- The law OuterNames (the document's third example, and a triangle and K4): the call returns true, and nothing that was there has turned. Conditions: the package-level variable tangram/lr.empty starts as the program's text lays it (the tied card); nothing else. How: an abstract interpreter of the model's programs is proved sound (AiA, AiB); the program's code is brought into it, and checked (OnEnv); the kernel runs the call (OnKA, OnKB). -/
import Derived.Test.YtjfppkhaiooloaaGreatDoorFacts
import Derived.Test.YtjfppkhaiooloaaGreatDoorOnKA
import Derived.Test.YtjfppkhaiooloaaGreatDoorOnKB
namespace Go.Proofs.YtjfppkhaiooloaaGreatDoor
open Go.AI Go.ChangeShapes Go.WideShapes Go.ChangeAt Go.WideMaps Go.WideElems Go.RowKit
open Go.Proofs.YtjfppkhaiooloaaGreatDoor.On
theorem envOk0 (B0 : Nat) : EnvOk Tryz.prog (tyOf Tryz.prog) env B0 := envOk (fun _ => rfl) fnOk MethOk.none (fun _ _ _ _ h => by cases h)
theorem envOk1 (B0 : Nat) : EnvOk Tryz.prog (tyOf Tryz.prog) (withKnown env glob [(63, true)]) B0 := by
  refine known_ok typesOk mixed envOk0 glob_plain (fun p hp => ?_) B0
  simp only [List.mem_cons, List.mem_nil_iff, or_false] at hp
  subst hp
  obtain ⟨s1, h⟩ := flagOf_eq k63
  exact ⟨env, 100000, s1, envOk0, h⟩
theorem outerNames_calls {W : World} (hL : laidMetH Tryz.prog laid1 W) : Calls Tryz.prog 15 #[] W fun e W' => e = .returned (.bool true) ∧ Below W.heap.size W W' := by
  obtain ⟨cs, elem, h1, h2⟩ := laid_empty hL
  obtain ⟨s1, h3⟩ := flagOf_eq k15
  have hR : Rel (LoopLR (tyOf Tryz.prog) (withKnown env glob [(63, true)])) W.heap.size (fun i => [(⟨0, 0, 2⟩ : Go.AI.Loc)][i]?) (startS [glob]) W := by
    refine Rel.start [glob] [⟨0, 0, 2⟩] rfl fun i c l hc hl => ?_
    cases i with
    | zero => cases hc; cases hl; exact glob_obj h1 h2
    | succ i => cases hc
  have hs : startS [glob] = bare glob := rfl
  rw [hs] at hR
  have hc := call_ok typesOk mixed (envOk1 W.heap.size) h3 hR ⟨2, rfl⟩ (args' := []) .nil
  refine (callsIn_wide.1 hc).mono fun e W' ⟨μ', _, hk, hres⟩ => ?_
  cases hres with
  | ret hv => rw [hv.bool_inv]; exact ⟨rfl, hk.below⟩
set_option maxRecDepth 100000 in
theorem outerNames_lifted (os : Os) (started : os.Started) (H : Type) (enc : TypeId × Value → H) :
    ReturnsInHanded {} Tryz.checked os 15 .any (fun w args => (Rows.outerNamesSpec.pre enc Tryz.prog Tryz.f15 [] false w args ∧ laidMetH Tryz.prog laid1 w) ∧ sizedMet enc Tryz.prog Tryz.f15 (OpenSpec.ofChange Rows.outerNamesSpec) false w args)
      (Rows.outerNamesSpec.post enc Tryz.prog Tryz.f15 false true false false) := by
  refine returnsInHanded_of_change_and (C := Tryz.checked) (X := fun w _ => laidMetH Tryz.prog laid1 w) (fun _ _ _ hh h => h.of_heap hh) own started (by kernel_rfl) Tryz.func15
    (ChangeSpec.witness_shaped (enc := enc) (C := Tryz.checked) (os := os) (X := fun w _ => laidMetH Tryz.prog laid1 w) false (World.doorLaid Tryz.prog 400 os) #[] 8 rfl (World.shaped_of_RefB (by kernel_rfl) (by kernel_rfl)) (by kernel_rfl) (by kernel_rfl) (by kernel_rfl) (door_met os _)) ?_
  intro W base args ds gs before hval0 hW _ _ hL _
  have hW' := hW
  obtain ⟨p, q, hA0, hV, rfl, hfz, hnd⟩ := hW
  have hA : DataW.TrodAll enc Tryz.prog W 0 (fun _ => true) true Tryz.f15.params.toList args.toList ds p := hA0
  rw [Tryz.params15] at hA
  obtain ⟨h1, rfl, rfl⟩ := trodAll_nil hA
  obtain rfl : args = #[] := by cases args; simp_all
  refine (outerNames_calls hL).mono fun e W' ⟨he, hb⟩ => ?_
  subst he
  exact ⟨_, rfl, law_post laidOut (by rw [Tryz.params15]; intro t ht; cases ht) (t := 4) rfl Tryz.underlying4 rfl hW' rfl hb⟩
set_option maxRecDepth 100000
theorem closure15 : Tryz.prog.closure 15 = [15, 62, 125, 255, 53, 117, 118, 92, 154, 203, 204, 205, 116, 202, 55, 119, 126, 256, 257, 309, 345, 310, 258, 88, 151, 97, 157, 155, 284, 329, 127, 158, 166, 63, 65, 81, 142, 143, 253, 307, 343, 344, 306, 335, 336, 360, 337, 361, 362, 338, 363, 364, 377, 339, 340, 341, 342, 269, 271, 317, 270, 47, 52, 106, 165, 167, 169, 93, 168, 170, 171, 172, 173, 98, 113, 192, 174, 285, 286, 287, 193, 194, 294, 195, 295, 296, 197, 299, 196, 297, 331, 298, 332, 351, 357, 352, 374, 353, 354, 375, 376, 381, 355, 356, 358, 359, 199, 198, 300, 114, 176, 200, 177, 301, 303, 333, 334, 201, 302, 304, 115, 108, 179, 288, 180, 181, 182, 289, 330, 183, 290, 291, 184, 131, 132, 261, 128] := by kernel_rfl
theorem named15 : Tryz.prog.funcNamed "tangram/tangramlaw28.OuterNames" = some 15 := by kernel_rfl
theorem facts15 : joinedFacts Tryz.prog 15 Tryz.f15 Rows.outerNamesSpec Rows.outerNamesRow = true :=
  row_facts closure15 (by kernel_rfl) (by kernel_rfl) rfl rfl (by kernel_rfl) (by kernel_rfl) (by kernel_rfl) (by kernel_rfl) (by kernel_rfl) (by kernel_rfl) (by kernel_rfl) (by kernel_rfl) (by kernel_rfl) (by kernel_rfl) (by kernel_rfl) (by kernel_rfl) (by kernel_rfl) (by kernel_rfl) (by kernel_rfl) (by kernel_rfl) (by kernel_rfl) (by kernel_rfl) (by kernel_rfl) (by kernel_rfl) rfl rfl rfl
theorem outerNames_row : Rows.OuterNamesSaid :=
  OpenClaim.holds_of_wide 15 Tryz.f15 rfl rfl rfl rfl rfl rfl rfl ⟨rfl, rfl, rfl, rfl, rfl⟩ rfl rfl rfl rfl rfl named15 Tryz.func15 facts15
    (of_decide_eq_true (by kernel_rfl)) (by unfold Func.isWrapper; first | (rw [if_pos (by decide +kernel)]; kernel_rfl) | (rw [if_neg (by decide +kernel)]; exact ⟨rfl, rfl⟩))
    (fun os started H enc _ => outerNames_lifted os started H enc)
theorem outerNames_holds : Rows.OuterNamesCardSaid :=
  Claim7.holds_tied_plain_at .later [] [.data] true (true, "616e14b79dddb718d9b7f0eb40e9a4e6db67c4ceb66c2f56635212fa935b5525") true
    outerNames_row (fun _ h => by cases h) (by kernel_rfl) (fun _ h => by cases h) outerNames_row_tie rfl ⟨rfl, rfl⟩ main_is rfl
    (fun f fn hf hfn => by
      obtain rfl : f = 15 := Option.some.inj (named15.symm.trans hf) |>.symm
      obtain rfl : fn = Tryz.f15 := (Option.some.inj (Tryz.func15.symm.trans hfn)).symm
      exact ⟨looks_true, fun j t ht => by
        rw [Tryz.params15] at ht
        simp at ht⟩)
    (goes_by _ rfl)
#print axioms outerNames_holds
end Go.Proofs.YtjfppkhaiooloaaGreatDoor
