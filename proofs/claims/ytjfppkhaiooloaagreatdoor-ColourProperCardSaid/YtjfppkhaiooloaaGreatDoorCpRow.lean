/- The law ColourProper: the call returns true, and nothing that was there has turned. -/
import Derived.Test.YtjfppkhaiooloaaGreatDoorCpMeth
import Derived.Test.YtjfppkhaiooloaaGreatDoorCpKA
import Derived.Test.YtjfppkhaiooloaaGreatDoorFacts
import Derived.Test.YtjfppkhaiooloaaGreatDoorArgs2
import Derived.Test.YtjfppkhaiooloaaGreatDoorT4
set_option linter.unusedSimpArgs false
namespace Go.Proofs.YtjfppkhaiooloaaGreatDoor.Cp
open Go.AI
noncomputable def envK : Env := withKnown env glob [(24, true)]
theorem no_spec {f : Nat} (h : f ≠ 24) (args : List Value) (s : St) : envK.spec f args s = none := by
  show knownSpec glob [(24, true)] f args s = none
  cases args with
  | nil =>
    show optE (ifB (Nat.beq 24 f) (some true) none) none _ = none
    rw [nbeq_false (fun e => h e.symm)]; rfl
  | cons _ _ => rfl
theorem envOk0 (B0 : Nat) : EnvOk Tryz.prog (tyOf Tryz.prog) env B0 := envOk (fun _ => rfl) fnOk meth_ok (fun _ _ _ _ h => by cases h)
theorem envOkK (B0 : Nat) : EnvOk Tryz.prog (tyOf Tryz.prog) envK B0 := by
  refine known_ok typesOk mixed envOk0 glob_plain (fun p hp => ?_) B0
  simp only [List.mem_cons, List.mem_nil_iff, or_false] at hp
  subst hp
  obtain ⟨s1, h⟩ := flagOf_eq k24
  exact ⟨env, 100000, s1, envOk0, h⟩
end Go.Proofs.YtjfppkhaiooloaaGreatDoor.Cp
namespace Go.Proofs.YtjfppkhaiooloaaGreatDoor
open Go.AI Go.ChangeShapes Go.WideShapes Go.ChangeAt Go.WideMaps Go.WideElems Go.RowKit
open Go.Proofs.YtjfppkhaiooloaaGreatDoor.Cp
theorem colourProper_calls {W : World} (hL : laidMetH Tryz.prog laid1 W) {n : Int} {sv cv : Value} {l1 l2 : Go.AI.Loc} {es : List (Int × Int)} {c : List Int} {z1 z2 : Bool} (o1 : ∀ LR μ, ObjR LR μ W (.cells (pairs es)) true l1) (o2 : ∀ LR μ, ObjR LR μ W (.cells (ints c)) true l2)
    (hz1 : z1 = true → es.length = 0) (hz2 : z2 = true → c.length = 0) (v1 : ∀ i (μ : Mu), μ i = some l1 → VR μ (absS z1 i 2 es.length) sv) (v2 : ∀ i (μ : Mu), μ i = some l2 → VR μ (absS z2 i 1 c.length) cv) (b1 : es.length * 16 ≤ maxBytes) (b2 : c.length * 8 ≤ maxBytes) :
    Calls Tryz.prog 4 #[.agg #[.int .i64 n, sv], cv] W fun e W' => e = .returned (.bool true) ∧ Below W.heap.size W W' := by
  obtain ⟨cs, elem, h1, h2⟩ := laid_empty hL
  have hR : Rel (LoopLR (tyOf Tryz.prog) envK) W.heap.size (fun i => [(⟨0, 0, 2⟩ : Go.AI.Loc), l1, l2][i]?) (startS [glob, pairs es, ints c]) W := by
    refine Rel.start [glob, pairs es, ints c] [⟨0, 0, 2⟩, l1, l2] rfl fun i c l hc hl => ?_
    match i, hc, hl with
    | 0, hc, hl => cases hc; cases hl; exact glob_obj h1 h2
    | 1, hc, hl => cases hc; cases hl; exact o1 _ _
    | 2, hc, hl => cases hc; cases hl; exact o2 _ _
    | i + 3, hc, hl => cases hc
  have hs : ∀ f args s, f ≠ 24 → envK.spec f args s = none := fun f args s h => no_spec h args s
  have hlaw := law4 (E := envK) (G := glob) rfl rfl rfl rfl rfl rfl rfl rfl hs (fun s hg => known_spec rfl hg) n es c (absS z1 1 2 es.length) (absS z2 2 1 c.length) (startS [glob, pairs es, ints c]) (wf_start _) (by rw [startS_ent]; rfl)
    (absS_shows hz1 (by rw [pairs_length]) (by rw [startS_ent]; rfl)) (absS_shows hz2 (by rw [ints_length]; omega) (by rw [startS_ent]; rfl)) b1 b2
  refine ev_calls typesOk mixed (envOkK W.heap.size) hlaw hR ⟨2, rfl⟩ (args' := [.agg #[.int .i64 n, sv], cv]) (.cons (.agg rfl fun i v v' hv hv' => ?_) (.cons (v2 2 _ rfl) .nil))
  match i, hv, hv' with
  | 0, hv, hv' => cases hv; cases hv'; exact .int _ _
  | 1, hv, hv' => cases hv; cases hv'; exact v1 1 _ rfl
  | i + 2, hv, hv' => simp at hv
set_option maxRecDepth 100000 in
theorem colourProper_lifted (os : Os) (started : os.Started) (H : Type) (enc : TypeId × Value → H) :
    ReturnsInHanded {} Tryz.checked os 4 .any (fun w args => (Rows.colourProperSpec.pre enc Tryz.prog Tryz.f4 [] false w args ∧ laidMetH Tryz.prog laid1 w) ∧ sizedMet enc Tryz.prog Tryz.f4 (OpenSpec.ofChange Rows.colourProperSpec) false w args)
      (Rows.colourProperSpec.post enc Tryz.prog Tryz.f4 false true false false) := by
  refine returnsInHanded_of_change_and (C := Tryz.checked) (X := fun w _ => laidMetH Tryz.prog laid1 w) (fun _ _ _ hh h => h.of_heap hh) own started (by kernel_rfl) Tryz.func4
    (ChangeSpec.witness_shaped (enc := enc) (C := Tryz.checked) (os := os) (X := fun w _ => laidMetH Tryz.prog laid1 w) false (World.doorLaid Tryz.prog 400 os) #[.agg #[.int .i64 0, .slice none 0 0], .slice none 0 0] 8 rfl (World.shaped_of_RefB (by kernel_rfl) (by kernel_rfl)) (by kernel_rfl) (by kernel_rfl) (by kernel_rfl) (door_met os _)) ?_
  intro W base args ds gs before hval0 hW _ hwt hL _
  have hval : ∀ (j : Nat) t v, Tryz.f4.params[j]? = some t → args[j]? = some v → Value.okWide Tryz.prog W .any base t v := hval0
  have hW' := hW
  obtain ⟨p, q, hA0, hV, rfl, hfz, hnd⟩ := hW
  have hA : DataW.TrodAll enc Tryz.prog W 0 (fun _ => true) true Tryz.f4.params.toList args.toList ds p := hA0
  rw [Tryz.params4] at hA hval hwt
  obtain ⟨v0, vs0, d0, ds0, p0, q0, hargs, rfl, rfl, h0, r0⟩ := trodAll_cons hA
  obtain ⟨v1, vs1, d1, ds1, p1, q1, hargs1, rfl, rfl, h1, r1⟩ := trodAll_cons r0
  obtain ⟨rfl, rfl, rfl⟩ := trodAll_nil r1
  subst hargs1
  obtain rfl : args = #[v0, v1] := by cases args; simp_all
  obtain ⟨cs, elem, hh, _⟩ := laid_empty hL
  obtain ⟨m, sv, l1, es, z1, rfl, o1, hz1, w1, e1⟩ := graph_arg (hval 0 24 v0 rfl rfl) h0 ⟨cs, elem, _, hh⟩
  obtain ⟨l2, c, z2, o2, hz2, w2, e2⟩ := ints_arg (hval 1 26 v1 rfl rfl) h1 ⟨cs, elem, _, hh⟩
  have hwt' : (DataW.weights Tryz.prog 24 d0).all (· ≤ reachBytes) = true ∧ (DataW.weights Tryz.prog 26 d1).all (· ≤ reachBytes) = true := by
    have : (DataW.weightsEach Tryz.prog ([24, 26] ++ Rows.colourProperSpec.plain.varTypes Tryz.prog) ([d0, d1] ++ gs)).all (· ≤ reachBytes) = true := hwt
    simp only [List.cons_append, DataW.weightsEach, List.all_append, Bool.and_eq_true] at this
    exact ⟨this.1, this.2.1⟩
  have b1 : es.length * 16 ≤ maxBytes := by
    rcases e1 with h | ⟨dn, xs, rest, rfl, h⟩
    · rw [h]; exact Nat.zero_le _
    · rw [← h]; exact graph_weight hwt'.1
  have b2 : c.length * 8 ≤ maxBytes := by
    rcases e2 with h | ⟨xs, rest, rfl, h⟩
    · rw [h]; exact Nat.zero_le _
    · rw [← h]; exact ints_weight hwt'.2
  refine (colourProper_calls hL o1 o2 hz1 hz2 w1 w2 b1 b2).mono fun e W' ⟨he, hb⟩ => ?_
  subst he
  exact ⟨_, rfl, law_post laidOut (by rw [Tryz.params4]; intro t ht; simp at ht; rcases ht with rfl | rfl <;> exact ⟨by kernel_rfl, of_decide_eq_true (by kernel_rfl)⟩) (t := 4) rfl Tryz.underlying4 rfl hW' rfl hb⟩
set_option maxRecDepth 100000
theorem closure4 : Tryz.prog.closure 4 = [4, 24, 34, 88, 92, 154, 151, 97, 157, 155, 284, 329, 98, 158, 166, 31, 93, 94, 156, 95, 96, 99, 159, 87, 25, 28, 52, 106, 165, 167, 169, 168, 170, 171, 172, 173, 113, 192, 174, 285, 286, 287, 193, 194, 294, 195, 295, 296, 197, 299, 196, 297, 331, 298, 307, 343, 344, 332, 351, 357, 317, 352, 374, 353, 361, 362, 354, 375, 376, 381, 355, 356, 358, 359, 199, 198, 300, 114, 176, 200, 177, 301, 303, 333, 334, 201, 302, 304, 115, 89, 152, 153, 90, 30, 33, 26, 29, 27, 91] := by kernel_rfl
theorem named4 : Tryz.prog.funcNamed "tangram/tangramlaw27.ColourProper" = some 4 := by kernel_rfl
theorem facts4 : joinedFacts Tryz.prog 4 Tryz.f4 Rows.colourProperSpec Rows.colourProperRow = true :=
  row_facts closure4 (by kernel_rfl) (by kernel_rfl) rfl rfl (by kernel_rfl) (by kernel_rfl) (by kernel_rfl) (by kernel_rfl) (by kernel_rfl) (by kernel_rfl) (by kernel_rfl) (by kernel_rfl) (by kernel_rfl) (by kernel_rfl) (by kernel_rfl) (by kernel_rfl) (by kernel_rfl) (by kernel_rfl) (by kernel_rfl) (by kernel_rfl) (by kernel_rfl) (by kernel_rfl) (by kernel_rfl) (by kernel_rfl) rfl rfl rfl
theorem colourProper_row : Rows.ColourProperSaid :=
  OpenClaim.holds_of_wide 4 Tryz.f4 rfl rfl rfl rfl rfl rfl rfl ⟨rfl, rfl, rfl, rfl, rfl⟩ rfl rfl rfl rfl rfl named4 Tryz.func4 facts4
    (of_decide_eq_true (by kernel_rfl)) (by unfold Func.isWrapper; first | (rw [if_pos (by decide +kernel)]; kernel_rfl) | (rw [if_neg (by decide +kernel)]; exact ⟨rfl, rfl⟩))
    (fun os started H enc _ => colourProper_lifted os started H enc)
theorem colourProper_holds : Rows.ColourProperCardSaid :=
  Claim7.holds_tied_plain_at .later [] [.data] true (true, "616e14b79dddb718d9b7f0eb40e9a4e6db67c4ceb66c2f56635212fa935b5525") true
    colourProper_row (fun _ h => by cases h) (by kernel_rfl) (fun _ h => by cases h) colourProper_row_tie rfl ⟨rfl, rfl⟩ main_is rfl
    (fun f fn hf hfn => by
      obtain rfl : f = 4 := Option.some.inj (named4.symm.trans hf) |>.symm
      obtain rfl : fn = Tryz.f4 := (Option.some.inj (Tryz.func4.symm.trans hfn)).symm
      exact ⟨looks_true, fun j t ht => by
        rw [Tryz.params4] at ht
        have hm : t ∈ [24, 26] := by simpa using Array.mem_of_getElem? ht
        have hall : ([24, 26].all fun u => !Tryz.prog.wantsStandIn u) = true := by kernel_rfl
        exact (show Tryz.prog.wantsStandIn t = false by simpa using List.all_eq_true.1 hall t hm)⟩)
    (goes_by _ rfl)
#print axioms colourProper_holds
end Go.Proofs.YtjfppkhaiooloaaGreatDoor
