/- What all rows of the seat want of the program's head and functions. -/
import Derived.Test.YtjfppkhaiooloaaGreatDoorBase
namespace Go.Proofs.YtjfppkhaiooloaaGreatDoor
open Go
set_option maxRecDepth 100000
/-- The signs of the program's head. -/
def signs : List Nat := [104, 97, 114, 110, 101, 115, 115, 32, 54, 49, 54, 101, 49, 52, 98, 55, 57, 100, 100, 100, 98, 55, 49, 56, 100, 57, 98, 55, 102, 48, 101, 98, 52, 48, 101, 57, 97, 52, 101, 54, 100, 98, 54, 55, 99, 52, 99, 101, 98, 54, 54, 99, 50, 102, 53, 54, 54, 51, 53, 50, 49, 50, 102, 97, 57, 51, 53, 98, 53, 53, 50, 53, 32, 99, 117, 116, 32, 97, 116, 32, 116, 97, 110, 103, 114, 97, 109, 47, 116, 97, 110, 103, 114, 97, 109, 108, 97, 119, 50, 55, 46, 67, 111, 108, 111, 117, 114, 70, 105, 118, 101, 32, 116, 97, 110, 103, 114, 97, 109, 47, 116, 97, 110, 103, 114, 97, 109, 108, 97, 119, 50, 55, 46, 67, 111, 108, 111, 117, 114, 80, 114, 111, 112, 101, 114, 32, 116, 97, 110, 103, 114, 97, 109, 47, 116, 97, 110, 103, 114, 97, 109, 108, 97, 119, 50, 55, 46, 67, 111, 108, 111, 117, 114, 80, 101, 101, 108, 115, 32, 116, 97, 110, 103, 114, 97, 109, 47, 116, 97, 110, 103, 114, 97, 109, 108, 97, 119, 50, 55, 46, 67, 111, 108, 111, 117, 114, 71, 114, 101, 101, 100, 121, 32, 116, 97, 110, 103, 114, 97, 109, 47, 116, 97, 110, 103, 114, 97, 109, 108, 97, 119, 50, 55, 46, 67, 111, 108, 111, 117, 114, 84, 104, 105, 110, 32, 116, 97, 110, 103, 114, 97, 109, 47, 116, 97, 110, 103, 114, 97, 109, 108, 97, 119, 50, 55, 46, 67, 111, 108, 111, 117, 114, 76, 101, 97, 115, 116, 32, 116, 97, 110, 103, 114, 97, 109, 47, 116, 97, 110, 103, 114, 97, 109, 108, 97, 119, 50, 55, 46, 67, 111, 108, 111, 117, 114, 79, 119, 110, 32, 116, 97, 110, 103, 114, 97, 109, 47, 116, 97, 110, 103, 114, 97, 109, 108, 97, 119, 49, 51, 46, 69, 109, 98, 101, 100, 83, 105, 100, 101, 115, 32, 116, 97, 110, 103, 114, 97, 109, 47, 116, 97, 110, 103, 114, 97, 109, 108, 97, 119, 49, 51, 46, 69, 109, 98, 101, 100, 70, 114, 111, 109, 32, 116, 97, 110, 103, 114, 97, 109, 47, 116, 97, 110, 103, 114, 97, 109, 108, 97, 119, 49, 51, 46, 69, 109, 98, 101, 100, 79, 119, 110, 32, 116, 97, 110, 103, 114, 97, 109, 47, 116, 97, 110, 103, 114, 97, 109, 108, 97, 119, 49, 51, 46, 69, 109, 98, 101, 100, 65, 103, 114, 101, 101, 115, 32, 116, 97, 110, 103, 114, 97, 109, 47, 116, 97, 110, 103, 114, 97, 109, 108, 97, 119, 50, 48, 46, 71, 101, 110, 83, 104, 97, 112, 101, 115, 32, 116, 97, 110, 103, 114, 97, 109, 47, 116, 97, 110, 103, 114, 97, 109, 108, 97, 119, 50, 56, 46, 79, 117, 116, 101, 114, 78, 97, 109, 101, 115, 32, 116, 97, 110, 103, 114, 97, 109, 47, 116, 97, 110, 103, 114, 97, 109, 108, 97, 119, 50, 56, 46, 79, 117, 116, 101, 114, 70, 105, 110, 100, 115, 32, 116, 97, 110, 103, 114, 97, 109, 47, 116, 97, 110, 103, 114, 97, 109, 108, 97, 119, 50, 56, 46, 79, 117, 116, 101, 114, 86, 97, 108, 105, 100, 32, 116, 97, 110, 103, 114, 97, 109, 47, 116, 97, 110, 103, 114, 97, 109, 108, 97, 119, 50, 56, 46, 79, 117, 116, 101, 114, 83, 104, 111, 119, 115, 32, 116, 97, 110, 103, 114, 97, 109, 47, 116, 97, 110, 103, 114, 97, 109, 108, 97, 119, 50, 56, 46, 79, 117, 116, 101, 114, 80, 97, 114, 116, 115, 32, 116, 97, 110, 103, 114, 97, 109, 47, 116, 97, 110, 103, 114, 97, 109, 108, 97, 119, 50, 56, 46, 79, 117, 116, 101, 114, 77, 101, 109, 111, 114, 121, 32, 116, 97, 110, 103, 114, 97, 109, 47, 116, 97, 110, 103, 114, 97, 109, 108, 97, 119, 50, 56, 46, 79, 117, 116, 101, 114, 65, 112, 101, 120, 32, 116, 97, 110, 103, 114, 97, 109, 47, 116, 97, 110, 103, 114, 97, 109, 108, 97, 119, 50, 53, 46, 71, 114, 105, 100, 83, 105, 122, 101, 115, 32, 116, 97, 110, 103, 114, 97, 109, 47, 116, 97, 110, 103, 114, 97, 109, 108, 97, 119, 50, 53, 46, 71, 114, 105, 100, 70, 117, 108, 108]
theorem order_eq : Tryz.prog.initOrder = String.ofList (signs.map Char.ofNat) := by kernel_rfl
theorem order_signs : Tryz.prog.initOrder.toList = signs.map Char.ofNat := by rw [order_eq, String.toList_ofList]
theorem signs_of {a : String} {l : List Nat} (h : a = String.ofList (l.map Char.ofNat)) : a.toList = l.map Char.ofNat := by rw [h, String.toList_ofList]
theorem w_cut : "cut".toList = [99, 117, 116].map Char.ofNat := signs_of (by kernel_rfl)
theorem w_gc : "gc".toList = [103, 99].map Char.ofNat := signs_of (by kernel_rfl)
theorem w_spec : "spec".toList = [115, 112, 101, 99].map Char.ofNat := signs_of (by kernel_rfl)
theorem w_carried : "carried".toList = [99, 97, 114, 114, 105, 101, 100].map Char.ofNat := signs_of (by kernel_rfl)
theorem w_harness : "harness".toList = [104, 97, 114, 110, 101, 115, 115].map Char.ofNat := signs_of (by kernel_rfl)
theorem w_finals : "finals".toList = [102, 105, 110, 97, 108, 115].map Char.ofNat := signs_of (by kernel_rfl)
theorem w_reflectrows : "reflectrows".toList = [114, 101, 102, 108, 101, 99, 116, 114, 111, 119, 115].map Char.ofNat := signs_of (by kernel_rfl)
theorem w_leanrows : "leanrows".toList = [108, 101, 97, 110, 114, 111, 119, 115].map Char.ofNat := signs_of (by kernel_rfl)
theorem w_onebuild : "onebuild".toList = [111, 110, 101, 98, 117, 105, 108, 100].map Char.ofNat := signs_of (by kernel_rfl)
theorem w_publicsums : "publicsums".toList = [112, 117, 98, 108, 105, 99, 115, 117, 109, 115].map Char.ofNat := signs_of (by kernel_rfl)
theorem w_eqguard : "eqguard".toList = [101, 113, 103, 117, 97, 114, 100].map Char.ofNat := signs_of (by kernel_rfl)
theorem w_ownunsafe : "ownunsafe".toList = [111, 119, 110, 117, 110, 115, 97, 102, 101].map Char.ofNat := signs_of (by kernel_rfl)
theorem w_libbeside : "libbeside".toList = [108, 105, 98, 98, 101, 115, 105, 100, 101].map Char.ofNat := signs_of (by kernel_rfl)
theorem w_ownbeside : "ownbeside".toList = [111, 119, 110, 98, 101, 115, 105, 100, 101].map Char.ofNat := signs_of (by kernel_rfl)
theorem w_reflbeside : "reflbeside".toList = [114, 101, 102, 108, 98, 101, 115, 105, 100, 101].map Char.ofNat := signs_of (by kernel_rfl)
theorem w_aliases : "aliases".toList = [97, 108, 105, 97, 115, 101, 115].map Char.ofNat := signs_of (by kernel_rfl)
theorem w_afterinit : "afterinit".toList = [97, 102, 116, 101, 114, 105, 110, 105, 116].map Char.ofNat := signs_of (by kernel_rfl)
theorem w_crcplain : "crcplain".toList = [99, 114, 99, 112, 108, 97, 105, 110].map Char.ofNat := signs_of (by kernel_rfl)
theorem w_roadunsafe : "roadunsafe".toList = [114, 111, 97, 100, 117, 110, 115, 97, 102, 101].map Char.ofNat := signs_of (by kernel_rfl)
theorem w_fmthandon : "fmthandon".toList = [102, 109, 116, 104, 97, 110, 100, 111, 110].map Char.ofNat := signs_of (by kernel_rfl)
def sumSigns : List Nat := [54, 49, 54, 101, 49, 52, 98, 55, 57, 100, 100, 100, 98, 55, 49, 56, 100, 57, 98, 55, 102, 48, 101, 98, 52, 48, 101, 57, 97, 52, 101, 54, 100, 98, 54, 55, 99, 52, 99, 101, 98, 54, 54, 99, 50, 102, 53, 54, 54, 51, 53, 50, 49, 50, 102, 97, 57, 51, 53, 98, 53, 53, 50, 53]
theorem w_sum : "616e14b79dddb718d9b7f0eb40e9a4e6db67c4ceb66c2f56635212fa935b5525".toList = sumSigns.map Char.ofNat := signs_of (by kernel_rfl)
theorem sum_ok : isSumSigns (sumSigns.map Char.ofNat) = true := by kernel_rfl
theorem words3 : (wordsSigns (signs.map Char.ofNat)).take 3 = [[104, 97, 114, 110, 101, 115, 115].map Char.ofNat, sumSigns.map Char.ofNat, [99, 117, 116].map Char.ofNat] := by kernel_rfl
theorem words_eq : ∃ r, wordsSigns Tryz.prog.initOrder.toList = "harness".toList :: (sumSigns.map Char.ofNat) :: "cut".toList :: r := by
  have h := words3
  rw [order_signs]
  match wordsSigns (signs.map Char.ofNat), h with
  | a :: b :: c :: r, h =>
    simp only [List.take_succ_cons, List.take_zero, List.cons.injEq] at h
    obtain ⟨h1, h2, h3, _⟩ := h
    rw [h1, h2, h3, w_harness, w_cut]
    exact ⟨r, rfl⟩
theorem words : ∃ r, behindMainWord (wordsSigns Tryz.prog.initOrder.toList) = "cut".toList :: r := by
  obtain ⟨r, h⟩ := words_eq
  refine ⟨r, ?_⟩
  rw [h]
  simp only [behindMainWord, sum_ok, beq_self_eq_true, Bool.true_or, Bool.and_self, if_true]
theorem cut_ne {o : String} {l : List Nat} (h : o.toList = l.map Char.ofNat) (hl : ([99, 117, 116].map Char.ofNat == l.map Char.ofNat) = false) : ("cut".toList == o.toList) = false := by rw [w_cut, h]; exact hl
theorem strip_ne (r : List (List Char)) : ∀ (os : List String), (∀ o ∈ os, ("cut".toList == o.toList) = false) → stripLifts os ("cut".toList :: r) = ([], "cut".toList :: r) := by
  intro os
  induction os with
  | nil => intro _; rfl
  | cons o os ih =>
    intro h
    unfold stripLifts
    rw [h o (List.mem_cons_self ..)]
    exact ih fun o ho => h o (List.mem_cons_of_mem _ ho)
theorem strip (r : List (List Char)) : stripLifts liftWords ("cut".toList :: r) = ([], "cut".toList :: r) := by
  refine strip_ne r liftWords fun o ho => ?_
  simp only [liftWords, List.mem_cons, List.mem_nil_iff, or_false] at ho
  rcases ho with rfl | rfl | rfl | rfl | rfl | rfl | rfl | rfl | rfl | rfl | rfl | rfl | rfl | rfl | rfl
  · exact cut_ne w_finals (by kernel_rfl)
  · exact cut_ne w_reflectrows (by kernel_rfl)
  · exact cut_ne w_leanrows (by kernel_rfl)
  · exact cut_ne w_onebuild (by kernel_rfl)
  · exact cut_ne w_publicsums (by kernel_rfl)
  · exact cut_ne w_eqguard (by kernel_rfl)
  · exact cut_ne w_ownunsafe (by kernel_rfl)
  · exact cut_ne w_libbeside (by kernel_rfl)
  · exact cut_ne w_ownbeside (by kernel_rfl)
  · exact cut_ne w_reflbeside (by kernel_rfl)
  · exact cut_ne w_aliases (by kernel_rfl)
  · exact cut_ne w_afterinit (by kernel_rfl)
  · exact cut_ne w_crcplain (by kernel_rfl)
  · exact cut_ne w_roadunsafe (by kernel_rfl)
  · exact cut_ne w_fmthandon (by kernel_rfl)
theorem cut_gc : ("cut".toList == "gc".toList) = false := cut_ne w_gc (by kernel_rfl)
theorem cut_spec : ("cut".toList == "spec".toList) = false := cut_ne w_spec (by kernel_rfl)
theorem cut_carried : ("cut".toList == "carried".toList) = false := cut_ne w_carried (by kernel_rfl)
theorem cut_cut : ("cut".toList == "cut".toList) = true := beq_self_eq_true _
section
variable {P : Program}
theorem headLifts_of {r : List (List Char)} (h : behindMainWord (wordsSigns P.initOrder.toList) = "cut".toList :: r) : P.headLifts = [] := by
  unfold Program.headLifts
  rw [h, strip]
  simp
theorem make_of {r : List (List Char)} (h : behindMainWord (wordsSigns P.initOrder.toList) = "cut".toList :: r) : P.make = some .cut := by
  unfold Program.make
  rw [h]
  simp only [cut_gc, cut_spec, cut_cut, Bool.or_self, Bool.false_eq_true, if_false, Bool.true_or, if_true]
theorem lifts_of {r : List (List Char)} (h : behindMainWord (wordsSigns P.initOrder.toList) = "cut".toList :: r) : P.liftsFinal = false := by
  have hc : (some "cut".toList == some "carried".toList) = false := cut_carried
  unfold Program.liftsFinal
  rw [h, headLifts_of h]
  simp only [List.head?_cons, hc, Bool.false_and, Bool.false_or]
  rfl
theorem enter_of {r : List (List Char)} (h : behindMainWord (wordsSigns P.initOrder.toList) = "cut".toList :: r) (h1 : P.laysLater = false) (h2 : P.bearsReflect = false) (h3 : P.doorFits [] = true) : P.mayEnter = true := by
  have hc : (some "cut".toList == some "cut".toList) = true := cut_cut
  unfold Program.mayEnter
  rw [h]
  simp only [strip, h1, h2, h3, cut_gc, cut_spec, cut_carried, List.head?_cons, hc, Bool.or_self, Bool.false_and, Bool.not_false, Bool.or_true, Bool.and_self, List.contains_nil, Bool.and_true]
theorem mainIs_of {r : List (List Char)} {l : List Char} (hl : isSumSigns l = true) (h : wordsSigns P.initOrder.toList = "harness".toList :: l :: "cut".toList :: r) : P.mainIs = some (true, l) := by
  unfold Program.mainIs
  rw [h]
  simp only [hl, beq_self_eq_true, Bool.not_true, Bool.false_eq_true, if_false, if_true]
end
theorem headLifts_nil : Tryz.prog.headLifts = [] := by
  obtain ⟨r, h⟩ := words
  exact headLifts_of h
theorem make_cut : Tryz.prog.make = some .cut := by
  obtain ⟨r, h⟩ := words
  exact make_of h
theorem lifts_final : Tryz.prog.liftsFinal = false := by
  obtain ⟨r, h⟩ := words
  exact lifts_of h
theorem lays_later : Tryz.prog.laysLater = false := by kernel_rfl
theorem bears_reflect : Tryz.prog.bearsReflect = false := by kernel_rfl
theorem door_fits : Tryz.prog.doorFits [] = true := by kernel_rfl
theorem may_enter : Tryz.prog.mayEnter = true := by
  obtain ⟨r, h⟩ := words
  exact enter_of h lays_later bears_reflect door_fits
theorem main_is : Tryz.prog.mainIs = some (true, "616e14b79dddb718d9b7f0eb40e9a4e6db67c4ceb66c2f56635212fa935b5525".toList) := by
  obtain ⟨r, h⟩ := words_eq
  rw [w_sum]
  exact mainIs_of sum_ok h
theorem no_goes : Tryz.prog.funcs.all (fun fn => !fn.goes) = true := by kernel_rfl
theorem goes_none (f : FuncId) : Tryz.prog.goes f = false := by
  have h := no_goes
  rw [Array.all_eq_true_iff_forall_mem] at h
  have h' : ∀ fn ∈ Tryz.prog.funcs, fn.goes = false := fun fn hm => by simpa using h fn hm
  unfold Program.goes
  rw [Bool.or_eq_false_iff]
  constructor
  · rw [List.any_eq_false]
    intro g _
    cases hg : Tryz.prog.funcs[g]? with
    | none => simp
    | some fn => simp [h' fn (Array.mem_of_getElem? hg)]
  · have : Tryz.prog.funcs.any Func.goes = false := by
      rw [Array.any_eq_false]
      intro i hi
      simp [h' _ (Array.getElem_mem hi)]
    rw [this, Bool.and_false]
theorem goes_by (c : OpenClaim) (hs : c.start = .entering) : false = c.goesBy Tryz.prog := by
  unfold OpenClaim.goesBy Program.goesAt
  rw [hs]
  simp only [Bool.or_false]
  unfold Program.goesFrom
  cases Tryz.prog.funcNamed c.func with
  | none => rfl
  | some f => simp [goes_none f]
theorem looks_true : true = Tryz.prog.looks [] := by kernel_rfl
theorem plain_keys : Tryz.prog.plainKeys = false := by kernel_rfl
theorem stops_heard : Tryz.prog.stopsHeard = true := by kernel_rfl
theorem maps_rowed : mapsRowed Tryz.prog = true := by kernel_rfl
theorem stops_nil : Tryz.prog.stops = [] := by kernel_rfl
theorem stop_knobs : Tryz.prog.stopKnobs = [] := by kernel_rfl
theorem joinedFacts_of {P : Program} {f : FuncId} {fn : Func} {s : ChangeSpec} {c : OpenClaim} (h1 : c.wf (OpenSpec.ofChange s) = true) (h2 : laidOutB P = true) (h3 : mapsRowed P = true) (h4 : fn.params.all (P.readableRec ·) = true) (h5 : namedTie P c.named s.vars = true) (h6 : (c.stops == []) = true) (h7 : (P.stops == []) = true) (h8 : (c.knobs == []) = true) (h9 : (P.stopKnobs == []) = true) (h10 : (c.inPlace == P.inPlace f) = true) (h11 : (c.unfollowed == P.unfollowed f) = true) (h12 : (c.recurses == P.recurses f) = true) (h13 : (c.named == P.varsNamed f) = true) (h14 : (c.maps == (fn.params.toList ++ s.plain.varTypes P).any (P.mapsRec ·)) = true) (h15 : (c.ifaces == (fn.params.toList ++ s.plain.varTypes P).any (P.ifacesRec ·)) = true) (h16 : (c.mapsOut == P.mapsAmong fn.resultTypes.toList) = true) (h17 : (c.loops == (fn.params.toList ++ s.plain.varTypes P).any (P.loopsFrom ·)) = true) (h18 : (c.wideKeys == (fn.params.toList ++ s.plain.varTypes P ++ fn.resultTypes.toList).any (P.wideKeysFrom ·)) = true) (h19 : s.vars.all (P.varReadable ·) = true) (h20 : fn.resultTypes.all (fun t => P.readableRec t && decide (t < P.types.size)) = true) (h21 : (c.ifacesOut == fn.resultTypes.toList.any (P.ifacesRec ·)) = true) (h22 : (c.loopsOut == fn.resultTypes.toList.any (P.loopsFrom ·)) = true) (h23 : (c.plainKeys == P.plainKeys) = true) (h24 : c.shortTexts.isNone = true) (h25 : P.stopsHeard = true) (h26 : P.mayEnter = true) (h27 : (c.lifted == P.liftsFinal) = true) (h28 : (P.make == some c.make) = true) (h29 : (c.kinds == (if c.domain.isEmpty then [] else fn.params.toList.map fun t => match P.underlying t with | some (.int k) => some k | _ => none)) = true) (h30 : (c.pinned == c.pinnedBy) = true) (h31 : (c.veiled == (fn.params.toList ++ s.plain.varTypes P ++ fn.resultTypes.toList).any (P.veiledRec ·)) = true) (h32 : c.veiledFits P fn.params.toList (fn.params.toList ++ s.plain.varTypes P ++ fn.resultTypes.toList) = true) : joinedFacts P f fn s c = true := by
  unfold joinedFacts
  simp only [Bool.and_eq_true]
  exact ⟨⟨⟨⟨⟨⟨⟨⟨⟨⟨⟨⟨⟨⟨⟨⟨⟨⟨⟨⟨⟨⟨⟨⟨⟨⟨⟨⟨⟨⟨⟨h1, h2⟩, h3⟩, h4⟩, h5⟩, h6⟩, h7⟩, h8⟩, h9⟩, h10⟩, h11⟩, h12⟩, h13⟩, h14⟩, h15⟩, h16⟩, h17⟩, h18⟩, h19⟩, h20⟩, h21⟩, h22⟩, h23⟩, h24⟩, h25⟩, h26⟩, h27⟩, h28⟩, h29⟩, h30⟩, h31⟩, h32⟩
def unfOf (P : Program) (L : List FuncId) : Bool := L.any fun g => (P.funcs[g]?).any fun fn => match fn.body with | some c => c.unfollowed | none => entryCalls fn
theorem closure_inPlace {P : Program} {f : FuncId} {L : List FuncId} (h : P.closure f = L) : P.inPlace f = P.inPlaceOf L := by rw [← h]; rfl
theorem closure_unfollowed {P : Program} {f : FuncId} {L : List FuncId} (h : P.closure f = L) : P.unfollowed f = unfOf P L := by rw [← h]; rfl
theorem recurses_of {P : Program} {f : FuncId} (h : P.unfollowed f = true) : P.recurses f = true := by unfold Program.recurses; rw [h]; rfl
theorem closure_named {P : Program} {f : FuncId} {L : List FuncId} (h : P.closure f = L) : P.varsNamed f = P.varsOf L := by rw [← h]; rfl
/-- The facts of a row of this seat. -/
theorem row_facts {f : FuncId} {fn : Func} {s : ChangeSpec} {c : OpenClaim} {L : List FuncId} (hcl : Tryz.prog.closure f = L) (hin : (c.inPlace == Tryz.prog.inPlaceOf L) = true)
    (hun : unfOf Tryz.prog L = true) (hcu : c.unfollowed = true) (hcr : c.recurses = true) (hnm : (c.named == Tryz.prog.varsOf L) = true)
    (h1 : c.wf (OpenSpec.ofChange s) = true) (h4 : fn.params.all (Tryz.prog.readableRec ·) = true) (h5 : namedTie Tryz.prog c.named s.vars = true) (h6 : (c.stops == []) = true) (h8 : (c.knobs == []) = true)
    (h14 : (c.maps == (fn.params.toList ++ s.plain.varTypes Tryz.prog).any (Tryz.prog.mapsRec ·)) = true) (h15 : (c.ifaces == (fn.params.toList ++ s.plain.varTypes Tryz.prog).any (Tryz.prog.ifacesRec ·)) = true) (h16 : (c.mapsOut == Tryz.prog.mapsAmong fn.resultTypes.toList) = true) (h17 : (c.loops == (fn.params.toList ++ s.plain.varTypes Tryz.prog).any (Tryz.prog.loopsFrom ·)) = true) (h18 : (c.wideKeys == (fn.params.toList ++ s.plain.varTypes Tryz.prog ++ fn.resultTypes.toList).any (Tryz.prog.wideKeysFrom ·)) = true) (h19 : s.vars.all (Tryz.prog.varReadable ·) = true) (h20 : fn.resultTypes.all (fun t => Tryz.prog.readableRec t && decide (t < Tryz.prog.types.size)) = true) (h21 : (c.ifacesOut == fn.resultTypes.toList.any (Tryz.prog.ifacesRec ·)) = true) (h22 : (c.loopsOut == fn.resultTypes.toList.any (Tryz.prog.loopsFrom ·)) = true) (h24 : c.shortTexts.isNone = true) (h29 : (c.kinds == (if c.domain.isEmpty then [] else fn.params.toList.map fun t => match Tryz.prog.underlying t with | some (.int k) => some k | _ => none)) = true) (h30 : (c.pinned == c.pinnedBy) = true) (h31 : (c.veiled == (fn.params.toList ++ s.plain.varTypes Tryz.prog ++ fn.resultTypes.toList).any (Tryz.prog.veiledRec ·)) = true) (h32 : c.veiledFits Tryz.prog fn.params.toList (fn.params.toList ++ s.plain.varTypes Tryz.prog ++ fn.resultTypes.toList) = true) (hpk : c.plainKeys = false) (hlf : c.lifted = false) (hmk : c.make = .cut) : joinedFacts Tryz.prog f fn s c = true := by
  have hu : Tryz.prog.unfollowed f = true := (closure_unfollowed hcl).trans hun
  refine joinedFacts_of h1 laidOut maps_rowed h4 h5 h6 (by rw [stops_nil]; rfl) h8 (by rw [stop_knobs]; rfl) (by rw [closure_inPlace hcl]; exact hin) (by rw [hu, hcu]; rfl) (by rw [recurses_of hu, hcr]; rfl) (by rw [closure_named hcl]; exact hnm)
    h14 h15 h16 h17 h18 h19 h20 h21 h22 (by rw [plain_keys, hpk]; rfl) h24 stops_heard may_enter (by rw [lifts_final, hlf]; rfl) (by rw [make_cut, hmk]; rfl) h29 h30 h31 h32
end Go.Proofs.YtjfppkhaiooloaaGreatDoor
