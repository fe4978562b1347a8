/- The abstract interpreter of the model's programs, part 2. -/
import Derived.Carry
import Derived.ChangeSame
import Derived.LaidMore
import Derived.Laws.StructEq
import Derived.OpenShut
import Derived.OrdersIn
import Derived.ProofKit
import Derived.RangeFuncNested
import Derived.RecoverIn
import Derived.Stop.Joined
import Derived.Test.YtjfppkhaiooloaaGreatDoorAiA

/-! The abstract interpreter: what an operation is brought into stands for it. -/
namespace Go.AI
open Go.RowKit

/-- The abstract operation stands for the operation. -/
def OpOk (P : Program) (o : Oper) : AOp → Prop
  | .op .quiet f => ValS P o f ∨ NewS P o f
  | .op .reads f => ReadS P o f
  | .op .hard f => HardS P o f
  | .call f xs => ∃ c g, o.op = .call c ∧ c.callee = .value g ∧ compX g = some f ∧ compXs c.args.toList = some xs
  | .callF f xs => ∃ c, o.op = .call c ∧ c.callee = .value (.func f) ∧ compXs c.args.toList = some xs
  | .invoke name r xs => ∃ c g, o.op = .call c ∧ c.callee = .invoke g name ∧ compX g = some r ∧ compXs c.args.toList = some xs
  | .panic x => ∃ y, o.op = .panic y ∧ compX y = some x
  | .defer f xs => ∃ c g, o.op = .defer c ∧ c.callee = .value g ∧ compX g = some f ∧ compXs c.args.toList = some xs
  | .recover => ∃ c, o.op = .call c ∧ c.callee = .builtin .recover ∧ c.args.toList = []

section
variable {P : Program} {ty : Types} {o : Oper}

theorem compKey_ok {t : TypeId} {kk : KeyK} (h : compKey ty t = some kk) : KeyTy ty t kk := by
  unfold compKey at h
  simp only [Option.bind_eq_bind, Option.bind_eq_some_iff] at h
  obtain ⟨i, hi, h⟩ := h
  cases hd : i.desc <;> rw [hd] at h <;> simp only at h <;> try (cases h; done)
  · cases h; exact .int hi hd
  all_goals
    split at h
    · rename_i hc; cases h; exact .ints hi hc.1 hc.2 (by rw [hd]; intro k x; cases x)
    · cases h

theorem compMap_ok {t : TypeId} {r : KeyK × TI} (h : compMap ty t = some r) : ∃ i kt et, ty t = some i ∧ i.desc = .map kt et ∧ KeyTy ty kt r.1 ∧ ty et = some r.2 := by
  unfold compMap at h
  simp only [Option.bind_eq_bind, Option.bind_eq_some_iff] at h
  obtain ⟨i, hi, h⟩ := h
  cases hd : i.desc <;> rw [hd] at h <;> simp only at h <;> try (cases h; done)
  simp only [Option.bind_eq_some_iff, Option.some.injEq] at h
  obtain ⟨kk, h1, ei, h2, rfl⟩ := h
  exact ⟨i, _, _, hi, hd, compKey_ok h1, h2⟩

theorem sliceElem_ok {t : TypeId} {ei : TI} (h : sliceElem ty t = some ei) : ∃ i e, ty t = some i ∧ i.desc = .slice e ∧ ty e = some ei := by
  unfold sliceElem at h
  simp only [Option.bind_eq_bind, Option.bind_eq_some_iff] at h
  obtain ⟨i, hi, h⟩ := h
  cases hd : i.desc <;> rw [hd] at h <;> simp only at h <;> try (cases h; done)
  exact ⟨i, _, hi, hd, h⟩

theorem compBin_ok (T : TyOk P ty) {op : BinOp} {t u : TypeId} {x y : Operand} {ao : AOp} (ho : o.op = .binOp op t x y u) (h : compBin ty op t x y = some ao) : OpOk P o ao := by
  unfold compBin at h
  simp only [Option.bind_eq_bind, Option.bind_eq_some_iff] at h
  obtain ⟨i, hi, ax, hx, ay, hy, h⟩ := h
  cases hd : i.desc <;> rw [hd] at h <;> simp only [Option.map_eq_some_iff] at h <;> try (cases h; done)
  · obtain ⟨n, hn, rfl⟩ := h; exact .inl (s_eqBool T hi hd hn hx hy ho)
  · split at h <;> cases h
    · exact .inl (s_shift hx hy ho)
    · exact .inl (s_arith hx hy ho)
  · obtain ⟨n, hn, rfl⟩ := h; exact .inl (s_strEq hn hx hy ho)
  all_goals first
    | (split at h
       · rename_i hc
         simp only [Option.map_eq_some_iff] at h
         obtain ⟨n, hn, rfl⟩ := h
         first
           | exact .inl (s_eqInts T hi hc.1 hc.2 hn hx hy ho)
           | exact .inl (s_eqIface T hi hd hn hc hx hy ho)
       · cases h)
    | (obtain ⟨n, hn, rfl⟩ := h
       first
         | exact .inl (s_eqPtr T hi hd hn hx hy ho)
         | exact .inl (s_eqSlice T hi hd hn hx hy ho)
         | exact .inl (s_eqFunc T hi hd hn hx hy ho))

theorem compXs_len {xs : List Operand} {l : List AX} (h : compXs xs = some l) : l.length = xs.length := by
  unfold compXs at h
  induction xs generalizing l with
  | nil => simp at h; subst h; rfl
  | cons x xs ih =>
    simp only [List.mapM_cons, Option.bind_eq_bind, Option.bind_eq_some_iff, Option.pure_def, Option.some.injEq] at h
    obtain ⟨ax, _, axs', h2, rfl⟩ := h
    simp [ih h2]

theorem compBuiltin_ok (T : TyOk P ty) {c : Call} {b : Builtin} {xs : List AX} {ao : AOp} (ho : o.op = .call c) (hb : c.callee = .builtin b) (hx : compXs c.args.toList = some xs) (h : compBuiltin ty b c.argTypes.toList xs = some ao) : OpOk P o ao := by
  unfold compBuiltin at h
  split at h
  · rename_i t x hts
    simp only [Option.bind_eq_bind, Option.bind_eq_some_iff] at h
    obtain ⟨i, hi, h⟩ := h
    cases hd : i.desc <;> rw [hd] at h <;> simp only at h <;> try (cases h; done)
    all_goals cases h
    · exact s_len T hts hi (hd ▸ .string) hx ho hb
    · exact s_len T hts hi (hd ▸ .slice) hx ho hb
    · exact s_len T hts hi (hd ▸ .array) hx ho hb
    · exact s_len T hts hi (hd ▸ .map) hx ho hb
  · rename_i t u x y hts
    simp only [Option.bind_eq_bind, Option.bind_eq_some_iff] at h
    obtain ⟨ei, hei, ui, hui, h⟩ := h
    obtain ⟨i, e, hi, hd, he⟩ := sliceElem_ok hei
    cases hud : ui.desc <;> rw [hud] at h <;> simp only at h <;> try (cases h; done)
    split at h
    · rename_i hc; cases h
      exact s_append T hts hi hd hui hud he hc.1 hc.2 hx ho hb
    · cases h
  · cases h; exact .inl (s_min hx ho hb)
  · cases h; exact .inl (s_max hx ho hb)
  · rename_i t _ m k hts
    simp only [Option.bind_eq_bind, Option.bind_eq_some_iff] at h
    obtain ⟨r, hr, h⟩ := h
    cases h
    obtain ⟨i, kt, et, h1, h2, h3, h4⟩ := compMap_ok hr
    exact s_delete T hts h1 h2 h3 hx ho hb
  · cases h
    have := compXs_len hx
    exact ⟨c, ho, hb, List.eq_nil_of_length_eq_zero this.symm⟩
  · cases h

theorem compCall_ok (T : TyOk P ty) {c : Call} {ao : AOp} (ho : o.op = .call c) (h : compCall ty c = some ao) : OpOk P o ao := by
  unfold compCall at h
  simp only [Option.bind_eq_bind, Option.bind_eq_some_iff] at h
  obtain ⟨xs, hx, h⟩ := h
  split at h
  · rename_i b hb; exact compBuiltin_ok T ho hb hx h
  · rename_i f hf; cases h; exact ⟨c, ho, hf, hx⟩
  · rename_i f _ hf
    simp only [Option.map_eq_some_iff] at h
    obtain ⟨g, hg, rfl⟩ := h
    exact ⟨c, _, ho, hf, hg, hx⟩
  · rename_i r name hf
    simp only [Option.map_eq_some_iff] at h
    obtain ⟨g, hg, rfl⟩ := h
    exact ⟨c, _, ho, hf, hg, hx⟩

theorem compOp_ok (T : TyOk P ty) {ao : AOp} (h : compOp ty o.op = some ao) : OpOk P o ao := by
  generalize hop : o.op = op at h
  cases op <;> simp only [compOp, Option.bind_eq_bind, Option.bind_eq_some_iff, Option.map_eq_some_iff, Option.some.injEq] at h <;> try (cases h; done)
  case move x => obtain ⟨ax, hx, rfl⟩ := h; exact .inl (s_mv hx (.inl hop))
  case assign x => obtain ⟨ax, hx, rfl⟩ := h; exact .inl (s_mv hx (.inr hop))
  case pick c a b => obtain ⟨ac, hc, aa, ha, ab, hb, rfl⟩ := h; exact .inl (s_pick hc ha hb hop)
  case alloc t =>
    obtain ⟨i, hi, h⟩ := h
    split at h
    · rename_i hz; cases h; exact .inr (s_alloc T hi hz hop)
    · cases h
  case box t x => obtain ⟨ax, hx, rfl⟩ := h; exact .inr (s_box hx hop)
  case build t ps =>
    obtain ⟨i, hi, xs, hx, h⟩ := h
    split at h
    · rename_i hz
      cases hd : i.desc <;> rw [hd] at h <;> simp only [Option.map_eq_some_iff, Option.bind_eq_some_iff, Option.some.injEq] at h <;> try (cases h; done)
      · obtain ⟨ei, he, rfl⟩ := h; exact .inl (s_buildA T hi hz hd he hx hop)
      · obtain ⟨qs, hq, rfl⟩ := h; exact .inl (s_buildS T hi hz hd hq hx hop)
    · cases h
  case buildSlice t n ps =>
    obtain ⟨ei, hei, xs, hx, h⟩ := h
    obtain ⟨i, e, hi, hd, he⟩ := sliceElem_ok hei
    split at h
    · rename_i hc; cases h; exact .inr (s_buildSlice T hi hd he hc.1 hx hc.2 hop)
    · cases h
  case load t x =>
    obtain ⟨i, hi, ax, hx, rfl⟩ := h
    cases hg : i.agg
    · exact s_load T hi hg hx hop
    · exact s_loadN T hi hg hx hop
  case store t x y => obtain ⟨i, hi, ax, hx, ay, hy, rfl⟩ := h; exact s_store T hi hx hy hop
  case nilCheck x => obtain ⟨ax, hx, rfl⟩ := h; exact .inl (s_nilCheck hx hop)
  case binOp op t x y u => exact compBin_ok T hop h
  case unOp op t x =>
    cases op <;> simp only [Option.map_eq_some_iff] at h <;> first
      | (obtain ⟨ax, hx, rfl⟩ := h; exact .inl (s_not hx hop))
      | (obtain ⟨ax, hx, rfl⟩ := h; exact .inl (s_neg hx hop))
      | (cases h; done)
  case convert src dst x =>
    obtain ⟨si, hsi, i, hi, h⟩ := h
    cases hd : i.desc <;> rw [hd] at h <;> simp only [Option.map_eq_some_iff] at h <;> try (cases h; done)
    obtain ⟨ax, hx, rfl⟩ := h
    exact .inl (s_conv T ⟨_, T.und _ _ hsi⟩ hi hd hx hop)
  case makeInterface t x =>
    obtain ⟨i, hi, h⟩ := h
    have : (∀ ms, i.desc ≠ .interface ms) ∧ ∃ ax, compX x = some ax ∧ ao = quiet (oIface t ax) := by
      cases hd : i.desc <;> rw [hd] at h <;> simp only [Option.map_eq_some_iff] at h <;> first
        | (cases h; done)
        | (obtain ⟨ax, hx, rfl⟩ := h; exact ⟨(by intro ms x; cases x), ax, hx, rfl⟩)
    obtain ⟨hd, ax, hx, rfl⟩ := this
    exact .inl (s_iface T hi hd hx hop)
  case makeFunc fn first captured =>
    cases fn <;> simp only [Option.bind_eq_some_iff, Option.some.injEq] at h <;> first
      | (obtain ⟨a1, h1, a2, h2, rfl⟩ := h; exact .inl (s_clos h1 h2 hop))
      | (cases h; done)
  case makeMap t r =>
    cases r with
    | none => cases h; exact .inr (s_mkMap hop)
    | some r => cases h
  case makeSlice t l c =>
    obtain ⟨ei, hei, h⟩ := h
    obtain ⟨i, e, hi, hd, he⟩ := sliceElem_ok hei
    split at h
    · rename_i hz
      simp only [Option.bind_eq_some_iff, Option.some.injEq] at h
      obtain ⟨ax, hx, ay, hy, rfl⟩ := h
      exact .inr (s_mkSlice T hi hd he hz hx hy hop)
    · cases h
  case slice t x lo hi mx =>
    obtain ⟨i, hti, ax, hx, h⟩ := h
    cases hd : i.desc <;> rw [hd] at h <;> simp only [Option.bind_eq_some_iff, Option.some.injEq] at h <;> try (cases h; done)
    · obtain ⟨ei, he, alo, h1, ahi, h2, amx, h3, rfl⟩ := h
      exact .inl (s_slice T hti hd he hx h1 h2 h3 hop)
    · obtain ⟨ei, he, h⟩ := h
      split at h
      · rename_i hc
        cases h
        simp only [Bool.and_eq_true, Option.isNone_iff_eq_none] at hc
        obtain ⟨⟨rfl, rfl⟩, rfl⟩ := hc
        exact s_sliceArr T hti hd he hx hop
      · cases h
  case fieldAddr t x f =>
    obtain ⟨i, hi, ax, hx, h⟩ := h
    cases hd : i.desc <;> rw [hd] at h <;> simp only [Option.bind_eq_some_iff] at h <;> try (cases h; done)
    obtain ⟨p, hp, h⟩ := h
    split at h
    · rename_i h0; cases h; exact .inl (s_fieldAddr T hi hd hp h0 hx hop)
    · cases h
  case field t x f =>
    obtain ⟨i, hi, ax, hx, h⟩ := h
    cases hd : i.desc <;> rw [hd] at h <;> simp only [Option.bind_eq_some_iff, Option.some.injEq] at h <;> try (cases h; done)
    obtain ⟨fd, hf, fi, hfi, rfl⟩ := h
    exact .inl (s_field T hi hd hf hfi hx hop)
  case indexAddr t x y =>
    obtain ⟨i, hi, ax, hx, ay, hy, h⟩ := h
    cases hd : i.desc <;> rw [hd] at h <;> simp only [Option.map_eq_some_iff] at h <;> try (cases h; done)
    · obtain ⟨ei, he, rfl⟩ := h; exact .inl (s_idxS T hi hd he hx hy hop)
    · obtain ⟨ei, he, rfl⟩ := h; exact .inl (s_idxA T hi hd he hx hy hop)
  case index t x y =>
    obtain ⟨i, hi, ax, hx, ay, hy, h⟩ := h
    cases hd : i.desc <;> rw [hd] at h <;> simp only [Option.map_eq_some_iff] at h <;> try (cases h; done)
    · cases h; exact .inl (s_indexStr T hi hd hx hy hop)
    · obtain ⟨ei, he, rfl⟩ := h; exact .inl (s_indexA T hi hd he hx hy hop)
  case lookup t m k ok =>
    obtain ⟨r, hr, h⟩ := h
    obtain ⟨i, kt, et, h1, h2, h3, h4⟩ := compMap_ok hr
    split at h
    · rename_i hz
      simp only [Option.bind_eq_some_iff, Option.some.injEq] at h
      obtain ⟨ax, hx, ay, hy, rfl⟩ := h
      exact s_lookup T h1 h2 h3 h4 hz hx hy hop
    · cases h
  case mapUpdate t m k v =>
    obtain ⟨r, hr, ax, hx, ay, hy, az, hz, rfl⟩ := h
    obtain ⟨i, kt, et, h1, h2, h3, h4⟩ := compMap_ok hr
    exact s_update T h1 h2 h3 hx hy hz (.inl hop)
  case insert t m k v =>
    obtain ⟨r, hr, ax, hx, ay, hy, az, hz, rfl⟩ := h
    obtain ⟨i, kt, et, h1, h2, h3, h4⟩ := compMap_ok hr
    exact s_update T h1 h2 h3 hx hy hz (.inr hop)
  case range t x =>
    obtain ⟨i, hi, h⟩ := h
    cases hd : i.desc <;> rw [hd] at h <;> simp only [Option.map_eq_some_iff] at h <;> try (cases h; done)
    obtain ⟨ax, hx, rfl⟩ := h
    exact s_range T hi hd hx hop
  case next it isString =>
    cases isString with
    | true => cases h
    | false =>
      simp only [Bool.false_eq_true, if_false, Option.map_eq_some_iff] at h
      obtain ⟨ax, hx, rfl⟩ := h
      exact s_next hx hop
  case entry it => obtain ⟨ax, hx, rfl⟩ := h; exact s_entry hx hop
  case extract x i => obtain ⟨ax, hx, rfl⟩ := h; exact .inl (s_extract hx hop)
  case typeAssert x u t ok =>
    obtain ⟨i, hi, h⟩ := h
    have : (∀ ms, i.desc ≠ .interface ms) ∧ zeroOk i = true ∧ ∃ ax, compX x = some ax ∧ ao = quiet (oAssert t ok i.zero ax) := by
      cases hd : i.desc <;> rw [hd] at h <;> simp only at h <;> first
        | (cases h; done)
        | (split at h
           · rename_i hz
             simp only [Option.map_eq_some_iff] at h
             obtain ⟨ax, hx, rfl⟩ := h
             exact ⟨(by intro ms x; cases x), hz, ax, hx, rfl⟩
           · cases h)
    obtain ⟨hd, hz, ax, hx, rfl⟩ := this
    exact .inl (s_assert T hi hd (zeroOk_eq hz).plain hx hop)
  case call c => exact compCall_ok T hop h
  case defer c =>
    obtain ⟨xs, hx, h⟩ := h
    split at h
    · rename_i f hf
      simp only [Option.map_eq_some_iff] at h
      obtain ⟨g, hg, rfl⟩ := h
      exact ⟨c, f, hop, hf, hg, hx⟩
    · cases h
  case panic x => obtain ⟨ax, hx, rfl⟩ := h; exact ⟨x, hop, hx⟩

end
end Go.AI

/-! The abstract interpreter: what is asked of the program; what is kept on the way; calls; the operations of a region, in the order of the text. -/
namespace Go.AI
open Go.RowKit

/-! ## What is kept -/

/-- A deferred call, on both sides. -/
inductive DefR (μ : Mu) : Deferred → Deferred → Prop
  | mark {D : Nat} {l : Loc} (h : μ D = some l) : DefR μ (mark D) { target := .collected l.block, args := #[] }
  | fn {g : FuncId} {cap args : Array Value} {cap' args' : Array Value} (hc : VRs μ cap.toList cap'.toList) (ha : VRs μ args.toList args'.toList) :
      DefR μ { target := .fn (.func g) cap, args := args } { target := .fn (.func g) cap', args := args' }

theorem DefR.mono {μ μ' : Mu} (hx : Ext μ μ') {d d' : Deferred} (h : DefR μ d d') : DefR μ' d d' := by
  cases h with
  | mark h => exact .mark (hx _ _ h)
  | fn hc ha => exact .fn (VRs.mono hx hc) (VRs.mono hx ha)

abbrev DefsR (μ : Mu) := Rel2 (DefR μ)
theorem DefsR.mono {μ μ' : Mu} (hx : Ext μ μ') {d d' : List Deferred} (h : DefsR μ d d') : DefsR μ' d d' := Rel2.mono h fun _ _ => DefR.mono hx

/-- An activation, on both sides; it has `N` temporaries at the least. -/
structure FrR (μ : Mu) (N : Nat) (fr : Fr) (a : Act) : Prop where
  tr : TR μ fr.tm a.tmps
  defs : DefsR μ fr.defers a.defers
  size : N ≤ a.tmps.size

theorem FrR.mono {μ μ' : Mu} (hx : Ext μ μ') {N : Nat} {fr : Fr} {a : Act} (h : FrR μ N fr a) : FrR μ' N fr a := ⟨h.tr.mono hx, DefsR.mono hx h.defs, h.size⟩

theorem FrR.put {μ : Mu} {N : Nat} {fr : Fr} {a : Act} (h : FrR μ N fr a) {dst : Option Nat} (hd : dstOk N dst = true) {v v' : Value} (hv : VR μ v v') : FrR μ N (put fr dst v) (a.put dst v') := by
  cases dst with
  | none => exact h
  | some d =>
    have hlt : d < N := by unfold dstOk at hd; rw [Nat.blt_eq] at hd; exact hd
    refine ⟨⟨h.tr.1, fun t u hu => ?_⟩, h.defs, ?_⟩
    · have hu' : (fr.tm.set d v).get t = some u := hu
      rw [Trie.get_set] at hu'
      show ∃ v'', (a.tmps.setIfInBounds d v')[t]? = some v'' ∧ _
      by_cases ht : t = d
      · rw [if_pos ht] at hu'; cases hu'; subst ht
        have := h.size
        exact ⟨v', by rw [Array.getElem?_setIfInBounds_self_of_lt (by omega)], hv⟩
      · rw [if_neg ht] at hu'
        obtain ⟨v'', h1, h2⟩ := h.tr.2 t u hu'
        exact ⟨v'', by rw [Array.getElem?_setIfInBounds_ne (Ne.symm ht)]; exact h1, h2⟩
    · show N ≤ (a.tmps.setIfInBounds d v').size
      rw [Array.size_setIfInBounds]; exact h.size

theorem FrR.skip {μ : Mu} {N : Nat} {fr : Fr} {a : Act} (h : FrR μ N fr a) {dst : Option Nat} (hd : dstOk N dst = true) : FrR μ N (AI.put fr dst undef) (a.put dst undef) := h.put hd (VR.undef μ)

/-- How an activation goes on, on both sides. -/
inductive ExR (μ : Mu) : AExit → Exit → Prop
  | normal : ExR μ .normal .normal
  | exit (id : Nat) : ExR μ (.exit id) (.exit id)
  | ret : ExR μ .ret .ret
  | panic {v v' : Value} (h : VR μ v v') : ExR μ (.panic v) (.panic [{ v := v', recovered := false }])

/-- What a call comes to, on both sides. -/
inductive ResR (μ : Mu) : CRes → Ending → Prop
  | ret {v v' : Value} (h : VR μ v v') : ResR μ (.ret v) (.returned v')
  | panic {v v' : Value} (h : VR μ v v') : ResR μ (.panic v) (.panicked [{ v := v', recovered := false }])

/-- What is left behind a walk. -/
def PostR (LR : LoopOk) (B0 N : Nat) (μ : Mu) (s : St) (w : World) (r : Ran) : Exit → Act → World → Prop := fun e a' w' =>
  ∃ μ', Rel LR B0 μ' r.2.2 w' ∧ Kept B0 μ s w μ' r.2.2 w' ∧ FrR μ' N r.2.1 a' ∧ ExR μ' r.1 e

/-- What is left behind a call. -/
def CallR (LR : LoopOk) (B0 : Nat) (μ : Mu) (s : St) (w : World) (r : CRes × St) : Ending → World → Prop := fun e w' =>
  ∃ μ', Rel LR B0 μ' r.2 w' ∧ Kept B0 μ s w μ' r.2 w' ∧ ResR μ' r.1 e

theorem PostR.from {LR : LoopOk} {B0 N : Nat} {μ μ1 : Mu} {s s1 : St} {w w1 : World} {r : Ran} (hk : Kept B0 μ s w μ1 s1 w1) {e : Exit} {a : Act} {w' : World} (h : PostR LR B0 N μ1 s1 w1 r e a w') : PostR LR B0 N μ s w r e a w' :=
  let ⟨μ', h1, h2, h3, h4⟩ := h; ⟨μ', h1, hk.trans h2, h3, h4⟩
theorem CallR.from {LR : LoopOk} {B0 : Nat} {μ μ1 : Mu} {s s1 : St} {w w1 : World} {r : CRes × St} (hk : Kept B0 μ s w μ1 s1 w1) {e : Ending} {w' : World} (h : CallR LR B0 μ1 s1 w1 r e w') : CallR LR B0 μ s w r e w' :=
  let ⟨μ', h1, h2, h3⟩ := h; ⟨μ', h1, hk.trans h2, h3⟩

/-- The fence of a frame: of a function, or of a round. -/
def FenceR (μ : Mu) (rd : Option Nat) (F : Fence) : Prop :=
  match rd with
  | none => F = Fence.wide
  | some l => ∃ loc, μ l = some loc ∧ F = Fence.wide.inRound loc.block
theorem FenceR.mono {μ μ' : Mu} (hx : Ext μ μ') {rd : Option Nat} {F : Fence} (h : FenceR μ rd F) : FenceR μ' rd F := by
  cases rd with
  | none => exact h
  | some l => obtain ⟨loc, h1, h2⟩ := h; exact ⟨loc, hx _ _ h1, h2⟩
theorem FenceR.fn {μ : Mu} {rd : Option Nat} {F : Fence} (h : FenceR μ rd F) (f : FuncId) : F.fn f := by
  cases rd with
  | none => cases h; trivial
  | some l => obtain ⟨loc, h1, rfl⟩ := h; trivial
theorem FenceR.depth {μ : Mu} {rd : Option Nat} {F : Fence} (h : FenceR μ rd F) (n : Nat) : F.depth.isSome = true → 1 ≤ n := by
  intro hd
  cases rd with
  | none => cases h; simp [Fence.wide] at hd
  | some l => obtain ⟨loc, h1, rfl⟩ := h; simp [Fence.wide, Fence.inRound] at hd
theorem FenceR.calls {μ : Mu} {rd : Option Nat} {F : Fence} (h : FenceR μ rd F) {n m : Nat} {P : Program} {f : FuncId} {args : Array Value} {w : World} {R : Ending → World → Prop} (hc : CallsIn Fence.wide n P f args w R) : CallsIn F m P f args w R := by
  have h2 : CallsIn Fence.wide m P f args w R := callsIn_wide.2 (callsIn_wide.1 hc)
  cases rd with
  | none => cases h; exact h2
  | some l => obtain ⟨loc, h1, rfl⟩ := h; exact h2.inRound _

/-- The abstract calls stand for the calls. -/
structure CallsOk (LR : LoopOk) (B0 : Nat) (P : Program) (C : Calls') : Prop where
  fn : ∀ f args s r, C.fn f args s = some r → ∀ μ w args', Rel LR B0 μ s w → GOk μ → VRs μ args args' → CallsIn Fence.wide 0 P f args'.toArray w (CallR LR B0 μ s w r) ∧ ∃ Fm b, P.funcs[f]? = some Fm ∧ Fm.body = some b ∧ (Fm.name == "runtime.NumGoroutine") = false
  val : ∀ f args s r, C.val f args s = some r → ∀ μ w f' args', Rel LR B0 μ s w → GOk μ → VR μ f f' → VRs μ args args' →
    ∃ d, (Deferred.ofValue f' args'.toArray).run P w = .ok d w ∧
      ((∃ g args2, (invoke d.target d.args).run P w = .ok (.enter g args2) w ∧ CallsIn Fence.wide 0 P g args2 w (CallR LR B0 μ s w r)) ∨
       ∃ l g tmps assign body, (invoke d.target d.args).run P w = .ok (.round l g tmps assign body) w ∧ ∀ rd F, FenceR μ rd F → RoundIn F 0 P l g tmps assign body w (CallR LR B0 μ s w r))
  inv : ∀ name x args s r, C.inv name x args s = some r → ∀ μ w x' args', Rel LR B0 μ s w → GOk μ → VR μ x x' → VRs μ args args' →
    ∃ g args2 w2, (invoke (.fn (.method name) #[]) (#[x'] ++ args'.toArray)).run P w = .ok (.enter g args2) w2 ∧ w2 = w ∧ CallsIn Fence.wide 0 P g args2 w (CallR LR B0 μ s w r)

section
variable {P : Program} {ty : Types} {LR : LoopOk} {B0 N : Nat} {C : Calls'}

theorem seqV_eq {r : OptRan} {k : Fr → St → OptRan} {q : Ran} : seqV r k = some q ↔ ∃ p : Ran, r = some p ∧ ((p.1 = .normal ∧ k p.2.1 p.2.2 = some q) ∨ (p = q ∧ ((∃ id, p.1 = .exit id) ∨ p.1 = .ret ∨ ∃ v, p.1 = .panic v))) := by
  unfold seqV
  rw [optE_eq]
  constructor
  · rintro ⟨⟨e, fr, s⟩, h1, h2⟩
    refine ⟨_, h1, ?_⟩
    cases e with
    | normal => exact .inl ⟨rfl, h2⟩
    | exit id => exact .inr ⟨by simpa using h2, .inl ⟨id, rfl⟩⟩
    | ret => exact .inr ⟨by simpa using h2, .inr (.inl rfl)⟩
    | panic v => exact .inr ⟨by simpa using h2, .inr (.inr ⟨v, rfl⟩)⟩
  · rintro ⟨⟨e, fr, s⟩, h1, h2⟩
    refine ⟨_, h1, ?_⟩
    rcases h2 with ⟨h2, h3⟩ | ⟨h2, h3⟩
    · simp only at h2; subst h2; exact h3
    · subst h2
      rcases h3 with ⟨id, h3⟩ | h3 | ⟨v, h3⟩ <;> simp only at h3 <;> subst h3 <;> rfl

theorem compGuard_ok {ops : Array Oper} {g : Option (Nat × Bool)} {ag : Option (Nat × Bool)} (h : compGuard ops g = some ag) :
    (g = none ∧ ag = none) ∨ ∃ j b d, g = some (j, b) ∧ ((ops[j]?).bind (·.dst)) = some d ∧ ag = some (d, b) := by
  unfold compGuard at h
  cases g with
  | none => cases h; exact .inl ⟨rfl, rfl⟩
  | some g =>
    simp only at h
    cases hb : (ops[g.1]?).bind (·.dst) with
    | none => rw [hb] at h; cases h
    | some d => rw [hb] at h; cases h; exact .inr ⟨g.1, g.2, d, rfl, hb, rfl⟩

/-- A guard, on both sides. -/
theorem wanted_ok {ops : Array Oper} {o : Oper} {ag : Option (Nat × Bool)} (hg : compGuard ops o.guard = some ag) {μ : Mu} {tm : Trie Value} {tmps : Array Value} (ht : TR μ tm tmps) {b : Bool} (hw : wanted tm ag = some b) :
    Region.wanted o (yielded ops tmps) = b := by
  rcases compGuard_ok hg with ⟨h1, rfl⟩ | ⟨j, bb, d, h1, h2, rfl⟩
  · cases hw; unfold Region.wanted; rw [h1]
  · unfold wanted at hw
    simp only [optE_some] at hw
    rw [optE_eq] at hw
    obtain ⟨v, h3, h4⟩ := hw
    obtain ⟨v', h5, h6⟩ := ht.2 d v h3
    unfold Region.wanted
    rw [h1]
    simp only
    unfold yielded
    rw [h2]
    simp only [Option.bind_some, h5]
    unfold wantedV at h4
    cases v <;> simp only at h4 <;> try (cases h4; done)
    · cases h4; rw [h6.bool_inv]; rfl
    · rename_i xs
      cases hs : Nat.beq xs.size 0 with
      | false => rw [hs] at h4; cases h4
      | true =>
        rw [hs] at h4; cases h4
        obtain ⟨c, rfl, _, _⟩ := h6.tuple_inv
        rfl

theorem compOper_ok {ops : Array Oper} {i : Nat} {ao : AO} (h : compOper ty N ops i = some ao) : ∃ o, ops[i]? = some o ∧ compGuard ops o.guard = some ao.guard ∧ compOp ty o.op = some ao.op ∧ dstOk N o.dst = true ∧ ao.dst = o.dst ∧ ao.at_ = i ∧ ao.again = [] := by
  unfold compOper at h
  simp only [Option.bind_eq_bind, Option.bind_eq_some_iff] at h
  obtain ⟨o, h1, g, h2, op, h3, h⟩ := h
  split at h
  · rename_i hd; cases h; exact ⟨o, h1, h2, h3, hd, rfl, rfl, rfl⟩
  · cases h

end
end Go.AI

/-! The abstract interpreter: one operation, and a region in the order of its text, on the machine. -/
namespace Go.AI
open Go.RowKit

section
variable {P : Program} {ty : Types} {LR : LoopOk} {B0 N : Nat} {C : Calls'}

theorem callFunc_enter {f : FuncId} {Fm : Func} {b : Code} (hf : P.funcs[f]? = some Fm) (hb : Fm.body = some b) (hn : (Fm.name == "runtime.NumGoroutine") = false) (args : Array Value) (w : World) :
    (callFunc f args).run P w = .ok (.enter f args) w := by
  have hn' : ¬ Fm.name = "runtime.NumGoroutine" := by intro x; rw [x] at hn; simp at hn
  simp [callFunc, hf, hb, hn']

theorem valued_eq {fr : Fr} {dst : Option Nat} {r : VS} {q : Ran} : valued fr dst r = some q ↔ ∃ v s', r = some (v, s') ∧ q = (.normal, put fr dst v, s') := by
  unfold valued
  rw [optE_eq]
  constructor
  · rintro ⟨⟨v, s'⟩, h1, h2⟩; cases h2; exact ⟨v, s', h1, rfl⟩
  · rintro ⟨v, s', h1, rfl⟩; exact ⟨(v, s'), h1, rfl⟩
theorem optR_eq {α : Type} {o : Option α} {k : α → OptRan} {q : Ran} : optR o k = some q ↔ ∃ x, o = some x ∧ k x = some q := optE_eq
theorem called_eq {fr : Fr} {dst : Option Nat} {r : OptRes} {q : Ran} (h : called fr dst r = some q) : ∃ c s', r = some (c, s') ∧ ((∃ v, c = .ret v ∧ q = (.normal, put fr dst v, s')) ∨ ∃ v, c = .panic v ∧ q = (.panic v, fr, s')) := by
  unfold called at h
  cases r with
  | none => cases h
  | some p =>
    obtain ⟨c, s'⟩ := p
    cases c with
    | ret v => simp at h; exact ⟨_, _, rfl, .inl ⟨v, rfl, h.symm⟩⟩
    | panic v => simp at h; exact ⟨_, _, rfl, .inr ⟨v, rfl, h.symm⟩⟩

/-- No operation but a call is about to make a call; every function lies within the fence. -/
theorem about_ok {μ : Mu} {rd : Option Nat} {F : Fence} (hf : FenceR μ rd F) (o : Oper) (w : World) (a : Act) : ∀ f, o.about P w a.eval = some f → F.fn f := fun f _ => hf.fn f

/-- Where a call's answer goes. -/
theorem call_next {μ : Mu} {s : St} {w : World} {fr : Fr} {a : Act} {dst : Option Nat} {c : CRes} {s' : St} {q : Ran} {K : Act → World → Prop} {Q : Exit → Act → World → Prop} (hfr : FrR μ N fr a) (hd : dstOk N dst = true)
    (hq : (∃ v, c = .ret v ∧ q = (.normal, put fr dst v, s')) ∨ ∃ v, c = .panic v ∧ q = (.panic v, fr, s'))
    (hK : ∀ μ' a' w', q.1 = .normal → Rel LR B0 μ' q.2.2 w' → Kept B0 μ s w μ' q.2.2 w' → FrR μ' N q.2.1 a' → K a' w')
    (hQ : ∀ v v' μ' a' w', q.1 = .panic v → VR μ' v v' → Rel LR B0 μ' q.2.2 w' → Kept B0 μ s w μ' q.2.2 w' → FrR μ' N q.2.1 a' → Q (.panic [{ v := v', recovered := false }]) a' w')
    {e : Ending} {w' : World} (h : CallR LR B0 μ s w (c, s') e w') :
    match e with
    | .returned v => K (a.put dst v) w'
    | .panicked chain => Q (.panic chain) a w'
    | .outgrown => LetsOut Q := by
  obtain ⟨μ', h1, h2, h3⟩ := h
  rcases hq with ⟨v, rfl, rfl⟩ | ⟨v, rfl, rfl⟩
  · cases h3 with
    | ret hv => exact hK μ' _ w' rfl h1 h2 ((hfr.mono h2.ext).put hd hv)
  · cases h3 with
    | panic hv => exact hQ v _ μ' a w' rfl hv h1 h2 (hfr.mono h2.ext)

/-- One operation. -/
theorem oper_sound (hC : CallsOk LR B0 P C) {o : Oper} {op : AOp} (hop : OpOk P o op) (hd : dstOk N o.dst = true) {rd : Option Nat} {F : Fence} {μ : Mu} (hfe : FenceR μ rd F) {fr : Fr} {s : St} {q : Ran}
    (h : operV C rd fr s o.dst op = some q) {a : Act} {w : World} (hR : Rel LR B0 μ s w) (hfr : FrR μ N fr a) {K : Act → World → Prop} {Q : Exit → Act → World → Prop}
    (hK : ∀ μ' a' w', q.1 = .normal → Rel LR B0 μ' q.2.2 w' → Kept B0 μ s w μ' q.2.2 w' → FrR μ' N q.2.1 a' → K a' w')
    (hQ : ∀ v v' μ' a' w', q.1 = .panic v → VR μ' v v' → Rel LR B0 μ' q.2.2 w' → Kept B0 μ s w μ' q.2.2 w' → FrR μ' N q.2.1 a' → Q (.panic [{ v := v', recovered := false }]) a' w') :
    o.wpIn F 0 P a w K Q := by
  refine ⟨about_ok hfe o w a, ?_⟩
  have hexec : (∀ c, o.op ≠ .defer c) → o.semAt F.round a.eval = execOp a.eval o := fun h => Oper.semAt_eq _ _ _ h
  cases op with
  | op k f =>
    have h' : valued fr o.dst (f fr.tm s) = some q := h
    rw [valued_eq] at h'
    obtain ⟨v, s', h1, rfl⟩ := h'
    have hard : HardS P o f := by
      cases k with
      | quiet => exact hop.elim ValS.hard NewS.hard
      | reads => exact hop.hard
      | hard => exact hop
    obtain ⟨nx, μ', w', e1, e2, e3, e4⟩ := hard fr.tm s v s' h1 LR B0 μ a w hR hfr.tr
    have hnd : ∀ c, o.op ≠ .defer c := by
      intro c hc
      have : (execOp a.eval o).run P w = .ok nx w' := e1
      unfold execOp at this
      rw [hc] at this
      simp only [Sem.run_bind, Sem.run_pure] at this
      generalize (resolve a.eval c o.type).run P w = rr at this
      cases rr with
      | halt x y => cases this
      | ok x y =>
        simp only [Result.andThen_ok] at this
        cases this
        rcases e2 with ⟨v', e2, _⟩ | ⟨e2, _⟩ <;> cases e2
    rw [hexec hnd, e1]
    rcases e2 with ⟨v', rfl, hv⟩ | ⟨rfl, rfl⟩
    · exact hK μ' _ w' rfl e3 e4 ((hfr.mono e4.ext).put hd hv)
    · exact hK μ' _ w' rfl e3 e4 ((hfr.mono e4.ext).skip hd)
  | call f xs =>
    obtain ⟨c, g, ho, hc, hf, hx⟩ := hop
    have h' : (optR (ev fr.tm f) fun f => optR (evs fr.tm xs) fun vs => called fr o.dst (C.val f vs s)) = some q := h
    rw [optR_eq] at h'
    obtain ⟨fv, h1, h'⟩ := h'
    rw [optR_eq] at h'
    obtain ⟨vs, h2, h'⟩ := h'
    obtain ⟨cr, s', h3, h4⟩ := called_eq h'
    have q1 := evR hf h1 hfr.tr
    have q2 := evsR hx h2 hfr.tr
    have hargs : (c.args.toList.map a.eval).toArray = c.args.map a.eval := by apply Array.ext'; simp
    obtain ⟨d, e1, e2⟩ := hC.val fv vs s _ h3 μ w _ _ hR hfr.tr.1 q1 q2
    rw [hargs] at e1
    rw [hexec (by intro c' hc'; rw [ho] at hc'; cases hc')]
    have hex : (execOp a.eval o).run P w = (invoke d.target d.args).run P w := by
      unfold execOp
      rw [ho]
      show (do let d ← resolve a.eval c o.type; invoke d.target d.args : Sem Next).run P w = _
      unfold resolve
      rw [hc]
      simp only [Sem.run_bind, e1, Result.andThen_ok]
    rw [hex]
    rcases e2 with ⟨g2, args2, e2, e3⟩ | ⟨l, g2, tmps, assign, body, e2, e3⟩
    · rw [e2]
      exact ⟨hfe.depth 0, (hfe.calls e3).mono fun e w' hcr => by have := call_next hfr hd h4 hK hQ hcr; cases e <;> exact this⟩
    · rw [e2]
      exact ⟨hfe.depth 0, (e3 rd F hfe).mono fun e w' hcr => by have := call_next hfr hd h4 hK hQ hcr; cases e <;> exact this⟩
  | callF f xs =>
    obtain ⟨c, ho, hc, hx⟩ := hop
    have h' : (optR (evs fr.tm xs) fun vs => called fr o.dst (C.fn f vs s)) = some q := h
    rw [optR_eq] at h'
    obtain ⟨vs, h2, h'⟩ := h'
    obtain ⟨cr, s', h3, h4⟩ := called_eq h'
    have q2 := evsR hx h2 hfr.tr
    have hargs : (c.args.toList.map a.eval).toArray = c.args.map a.eval := by apply Array.ext'; simp
    obtain ⟨e1, Fm, b, e2, e3, e4⟩ := hC.fn f vs s _ h3 μ w _ hR hfr.tr.1 q2
    rw [hargs] at e1
    rw [hexec (by intro c' hc'; rw [ho] at hc'; cases hc')]
    have hex : (execOp a.eval o).run P w = .ok (.enter f (c.args.map a.eval)) w := by
      unfold execOp
      rw [ho]
      show (do let d ← resolve a.eval c o.type; invoke d.target d.args : Sem Next).run P w = _
      unfold resolve
      rw [hc]
      simp only [Act.eval, Deferred.ofValue, Sem.run_bind, Sem.run_pure, Result.andThen_ok, invoke]
      rw [callFunc_enter e2 e3 e4]
      congr 2
      apply Array.ext'
      simp
    rw [hex]
    exact ⟨hfe.depth 0, (hfe.calls e1).mono fun e w' hcr => by have := call_next hfr hd h4 hK hQ hcr; cases e <;> exact this⟩
  | invoke name x xs =>
    obtain ⟨c, g, ho, hc, hf, hx⟩ := hop
    have h' : (optR (ev fr.tm x) fun x => optR (evs fr.tm xs) fun vs => called fr o.dst (C.inv name x vs s)) = some q := h
    rw [optR_eq] at h'
    obtain ⟨xv, h1, h'⟩ := h'
    rw [optR_eq] at h'
    obtain ⟨vs, h2, h'⟩ := h'
    obtain ⟨cr, s', h3, h4⟩ := called_eq h'
    have q1 := evR hf h1 hfr.tr
    have q2 := evsR hx h2 hfr.tr
    have hargs : (c.args.toList.map a.eval).toArray = c.args.map a.eval := by apply Array.ext'; simp
    obtain ⟨g2, args2, w2, e1, rfl, e2⟩ := hC.inv name xv vs s _ h3 μ w _ _ hR hfr.tr.1 q1 q2
    rw [hargs] at e1
    rw [hexec (by intro c' hc'; rw [ho] at hc'; cases hc')]
    have hex : (execOp a.eval o).run P w2 = .ok (.enter g2 args2) w2 := by
      unfold execOp
      rw [ho]
      show (do let d ← resolve a.eval c o.type; invoke d.target d.args : Sem Next).run P w2 = _
      unfold resolve
      rw [hc]
      simp only [Sem.run_bind, Sem.run_pure, Result.andThen_ok]
      exact e1
    rw [hex]
    exact ⟨hfe.depth 0, (hfe.calls e2).mono fun e w' hcr => by have := call_next hfr hd h4 hK hQ hcr; cases e <;> exact this⟩
  | panic x =>
    obtain ⟨y, ho, hx⟩ := hop
    have h' : (optR (ev fr.tm x) fun x => panicV fr s x) = some q := h
    rw [optR_eq] at h'
    obtain ⟨v, h1, h'⟩ := h'
    unfold panicV at h'
    cases v <;> simp only at h' <;> try (cases h'; done)
    cases h'
    have q1 := evR hx h1 hfr.tr
    obtain ⟨z, e1, e2⟩ := q1.iface_inv
    rw [hexec (by intro c' hc'; rw [ho] at hc'; cases hc')]
    have hex : (execOp a.eval o).run P w = .halt (.panic (a.eval y)) w := by
      simp [execOp, ho, e1, Instr.panic]
    rw [hex]
    exact hQ _ _ μ a w rfl q1 hR (.refl _ _ _ _) hfr
  | defer f xs =>
    obtain ⟨c, g, ho, hc, hf, hx⟩ := hop
    have h' : ifB (isNone' rd) (optR (ev fr.tm f) fun f => optR (evs fr.tm xs) fun vs => deferV fr o.dst s f vs) none = some q := h
    rw [ifB_eq] at h'
    obtain ⟨hrd, h'⟩ := h'
    rw [optR_eq] at h'
    obtain ⟨fv, h1, h'⟩ := h'
    rw [optR_eq] at h'
    obtain ⟨vs, h2, h'⟩ := h'
    have hrn : rd = none := by cases rd <;> first | rfl | cases hrd
    subst hrn
    cases hfe
    have q1 := evR hf h1 hfr.tr
    have q2 := evsR hx h2 hfr.tr
    unfold deferV at h'
    cases fv <;> simp only at h' <;> try (cases h'; done)
    rename_i fn first cap
    cases fn <;> simp only at h' <;> try (cases h'; done)
    rename_i gf
    cases h'
    obtain ⟨a', b', e1, e2, e3⟩ := q1.func_inv
    show Oper.uponIn Fence.wide 0 P o a K Q ((execOp a.eval o).run P w)
    have hex : (execOp a.eval o).run P w = .ok (.defer { target := .fn (.func gf) b', args := a' ++ c.args.map a.eval }) w := by
      unfold execOp
      rw [ho]
      show (do pure (.defer (← resolve a.eval c o.type)) : Sem Next).run P w = _
      unfold resolve
      rw [hc]
      simp only [e1, Deferred.ofValue, Sem.run_bind, Sem.run_pure, Result.andThen_ok]
    rw [hex]
    refine hK μ _ w rfl hR (.refl _ _ _ _) ?_
    refine FrR.put (fr := ⟨fr.tm, _ :: fr.defers⟩) (a := { a with defers := _ :: a.defers }) ⟨hfr.tr, ?_, hfr.size⟩ hd (VR.undef μ)
    refine .cons (.fn e3 ?_) hfr.defs
    simpa using e2.append q2
  | recover => cases h

/-- The operations of a region, in the order of its text. -/
theorem ops_sound (T : TyOk P ty) (hC : CallsOk LR B0 P C) {ops : Array Oper} {rd : Option Nat} {F : Fence} : ∀ (is : List Nat) (l : List AO), compAll ty N ops is = some l → ∀ {μ : Mu}, FenceR μ rd F → ∀ {fr : Fr} {s : St} {q : Ran},
    opsV C rd l fr s = some q → ∀ {a : Act} {w : World}, Rel LR B0 μ s w → FrR μ N fr a → ∀ {μ0 : Mu} {s0 : St} {w0 : World}, Kept B0 μ0 s0 w0 μ s w → wpOpsIn F 0 P ops (PostR LR B0 N μ0 s0 w0 q) is a w := by
  intro is
  induction is with
  | nil =>
    intro l hl μ hfe fr s q h a w hR hfr μ0 s0 w0 hk0
    cases hl
    rw [opsV_nil] at h
    cases h
    exact ⟨μ, hR, hk0, hfr, .normal⟩
  | cons i is ih =>
    intro l hl μ hfe fr s q h a w hR hfr μ0 s0 w0 hk0
    unfold compAll at hl
    simp only [Option.bind_eq_bind, Option.bind_eq_some_iff, Option.some.injEq] at hl
    obtain ⟨ao, h1, os, h2, rfl⟩ := hl
    obtain ⟨o, g1, g2, g3, g4, g5, _, _⟩ := compOper_ok h1
    rw [opsV_cons, optE_eq] at h
    obtain ⟨wt, h3, h⟩ := h
    have hw := wanted_ok g2 hfr.tr h3
    rw [wpOpsIn_cons]
    unfold wpOpIn
    simp only [g1, hw]
    cases wt with
    | true =>
      simp only [if_true]
      rw [ifB_true, seqV_eq] at h
      obtain ⟨p, h4, h5⟩ := h
      rw [g5] at h4
      refine oper_sound hC (compOp_ok T g3) g4 hfe h4 hR hfr ?_ ?_
      · intro μ' a' w' hn hR' hk hfr'
        rcases h5 with ⟨_, h5⟩ | ⟨rfl, h5⟩
        · exact ih os h2 (hfe.mono hk.ext) h5 hR' hfr' (hk0.trans hk)
        · rcases h5 with ⟨id, h5⟩ | h5 | ⟨v, h5⟩ <;> rw [hn] at h5 <;> cases h5
      · intro v v' μ' a' w' hn hv hR' hk hfr'
        rcases h5 with ⟨h5, _⟩ | ⟨rfl, _⟩
        · rw [hn] at h5; cases h5
        · exact ⟨μ', hR', hk0.trans hk, hfr', by rw [hn]; exact .panic hv⟩
    | false =>
      simp only [Bool.false_eq_true, if_false]
      rw [ifB_false] at h
      rw [g5] at h
      exact ⟨about_ok hfe o w a, ih os h2 hfe h hR (hfr.skip g4) hk0⟩

end
end Go.AI

/-! The abstract interpreter: code, on the machine. -/
namespace Go.AI
open Go.RowKit

/-! ## Two rules of the walk -/
section rules
variable {F : Fence} {n : Nat} {P : Program} {Q : Exit → Act → World → Prop} {a : Act} {w : World}

theorem stepR_scope {b : Frame} {k : List Item} {cs : List Frame} {c : Code} : step P (lone (b.atR a (.code (.scope c) :: k)) cs w) = .next (lone (b.atR a (.code c :: .inScope c :: k)) cs w) :=
  step_lone_go (by simp [stepG, stepG.exec, Frame.atR])
theorem stepR_inScope {b : Frame} {k : List Item} {cs : List Frame} {c : Code} : step P (lone (b.atR a (.inScope c :: k)) cs w) = .next (lone (b.atR a k) cs w) :=
  step_lone_go (by simp [stepG, stepG.exec, Frame.atR])

/-- A scope out of which no jump to a label leads. -/
theorem wpIn_scope {c : Code} (hg : ∀ l a w, ¬ Q (.goto l) a w) (h : c.wpIn F n P Q a w) : (Code.scope c).wpIn F n P Q a w := by
  intro b k cs hro hb hr
  have h0 : (lone (b.atR a (.code (.scope c) :: k)) cs w).fenced P F := fenced_calm hb hr rfl
  obtain ⟨e, a₁, w₁, hq, harr⟩ := h b (.inScope c :: k) cs hro hb hr
  cases e with
  | normal => exact ⟨.normal, a₁, w₁, hq, .head h0 stepR_scope (StepsIn.trans harr (.one (fenced_calm hb hr rfl) stepR_inScope))⟩
  | exit id =>
    have hx : exitTo id (.inScope c :: k) = exitTo id k := by simp [exitTo]
    exact ⟨_, a₁, w₁, hq, fun k' hk => .head h0 stepR_scope (harr.1 k' (by rw [hx]; exact hk)),
      fun hr' hk => let ⟨k₁, h1, h2⟩ := harr.2 hr' (by rw [hx]; exact hk); ⟨k₁, h1, .head h0 stepR_scope h2⟩⟩
  | goto l => exact absurd hq (hg _ _ _)
  | ret => exact ⟨_, a₁, w₁, hq, .of_steps (.one h0 stepR_scope) harr⟩
  | panic ch => exact ⟨_, a₁, w₁, hq, .of_steps (.one h0 stepR_scope) harr⟩
  | outgrown => exact ⟨_, a₁, w₁, hq, .of_steps (.one h0 stepR_scope) harr⟩

/-- A loop, by what is left of its fuel. -/
theorem wpIn_loop_fuel {c : Code} (G : Nat → Act → World → Prop) (round : ∀ j a w, G j a w → c.wpIn F n P (Exit.then (fun a' w' => ∃ j', j' < j ∧ G j' a' w') Q) a w) {j : Nat} (h : G j a w) : (Code.loop c).wpIn F n P Q a w := by
  intro b k cs hro hb hr
  have key : ∀ j a w, G j a w → ∃ e a' w', Q e a' w' ∧ ArrivesIn (Machine.fenced P F) P (lone (b.atR a (.code c :: .inLoop c :: k)) cs w) b k cs e a' w' := by
    intro j
    induction j using Nat.strongRecOn with
    | _ j ih =>
      intro a w hG
      obtain ⟨e, a₁, w₁, hq, harr⟩ := round j a w hG b (.inLoop c :: k) cs hro hb hr
      cases e with
      | normal =>
        obtain ⟨j', hlt, hG'⟩ := hq
        obtain ⟨e₂, a₂, w₂, hq₂, harr₂⟩ := ih j' hlt a₁ w₁ hG'
        exact ⟨e₂, a₂, w₂, hq₂, .of_steps (StepsIn.trans harr (.one (fenced_calm hb hr rfl) stepR_inLoop)) harr₂⟩
      | exit id => exact ⟨_, a₁, w₁, hq, .pass (x := .inLoop c) rfl (fun _ _ => .inl (by simp)) harr⟩
      | goto l => exact ⟨_, a₁, w₁, hq, .pass (x := .inLoop c) rfl (fun _ _ => .inl (by simp)) harr⟩
      | ret => exact ⟨_, a₁, w₁, hq, .pass (x := .inLoop c) rfl (fun _ _ => .inl (by simp)) harr⟩
      | panic ch => exact ⟨_, a₁, w₁, hq, .pass (x := .inLoop c) rfl (fun _ _ => .inl (by simp)) harr⟩
      | outgrown => exact ⟨_, a₁, w₁, hq, .pass (x := .inLoop c) rfl (fun _ _ => .inl (by simp)) harr⟩
  obtain ⟨e, a', w', hq, harr⟩ := key j a w h
  exact ⟨e, a', w', hq, .of_steps (.one (fenced_calm hb hr rfl) stepR_loop) harr⟩
end rules

/-! ## What is asked of the rounds -/

/-- The ranges over functions in a function's code stand among the rounds that are known. -/
def RangesOk (ty : Types) (E : Env) (N fid : Nat) (c : Code) : Prop :=
  ∀ q ∈ rangesOf fid c, ∀ L, E.rounds q.1 = some L → q.2.1.toList = L.ps ∧ comp ty N fid q.2.2.1 = some L.assign ∧ comp ty N fid q.2.2.2 = some L.body

/-- What a loop's record holds. -/
def LoopLR (ty : Types) (E : Env) : LoopOk := fun key r => ∀ L, E.rounds key = some L → ∃ N fid, r.params.toList = L.ps ∧ (∀ p ∈ L.ps, p < N) ∧ N ≤ r.tmps.size ∧ comp ty N fid r.assign = some L.assign ∧ comp ty N fid r.body = some L.body ∧
  RangesOk ty E N fid r.assign ∧ RangesOk ty E N fid r.body

/-- Code, run with so much fuel. -/
def CodeOk (P : Program) (ty : Types) (E : Env) (B0 : Nat) (rec : Rec) : Prop :=
  ∀ rd c fr s q, rec rd c fr s = some q → ∀ N fid code, comp ty N fid code = some c → RangesOk ty E N fid code → ∀ μ F a w, Rel (LoopLR ty E) B0 μ s w → FrR μ N fr a →
    ∀ μ0 s0 w0, FenceR μ0 rd F → Kept B0 μ0 s0 w0 μ s w → code.wpIn F 0 P (PostR (LoopLR ty E) B0 N μ0 s0 w0 q) a w

section
variable {P : Program} {ty : Types} {E : Env} {B0 : Nat}

theorem PostR.no_goto {LR : LoopOk} {N : Nat} {μ : Mu} {s : St} {w : World} {r : Ran} {l : Nat} {a : Act} {w' : World} : ¬ PostR LR B0 N μ s w r (.goto l) a w' := by
  rintro ⟨μ', _, _, _, h⟩
  generalize r.1 = x at h
  cases h

theorem loop?_eq {s : St} {l : Nat} {R : LoopR} (h : s.loop? l = some R) : ∃ e, s.ent? l = some e ∧ e.obj = R.obj := by
  unfold St.loop? at h
  cases he : s.ent? l with
  | none => rw [he] at h; cases h
  | some e =>
    rw [he] at h
    simp only at h
    cases hob : e.obj <;> rw [hob] at h <;> simp only at h <;> try (cases h; done)
    cases h
    exact ⟨e, rfl, hob⟩

/-- A loop's record, on the other side. -/
theorem Rel.loopAt {LR : LoopOk} {μ : Mu} {s : St} {w : World} (h : Rel LR B0 μ s w) {l : Nat} {R : LoopR} {loc : Loc} (hl : μ l = some loc) (hs : s.loop? l = some R) :
    loc.base = 0 ∧ ∃ r lD, w.heap[loc.block]? = some (.loop r) ∧ r.state = R.state ∧ PendR R.pending r.pending ∧ TR μ R.tm r.tmps ∧ μ R.defers = some lD ∧ r.defers = lD.block ∧ LR R.key r := by
  obtain ⟨e, h1, h2⟩ := loop?_eq hs
  have := h.obj l e loc h1 hl
  rw [h2] at this
  exact this

/-- A loop's record is replaced on both sides. -/
theorem Rel.putLoop {LR : LoopOk} {μ : Mu} {s s' : St} {w : World} (h : Rel LR B0 μ s w) {l : Nat} {R R' : LoopR} {loc : Loc} {r' : Loop} (hl : μ l = some loc) (hs : s.loop? l = some R) (hp : s.put l R'.obj = some s')
    (h1 : r'.state = R'.state) (h2 : PendR R'.pending r'.pending) (h3 : TR μ R'.tm r'.tmps) (h4 : ∃ lD, μ R'.defers = some lD ∧ r'.defers = lD.block) (h5 : LR R'.key r') :
    Rel LR B0 μ s' (w.putObj loc.block (.loop r')) ∧ Kept B0 μ s w μ s' (w.putObj loc.block (.loop r')) := by
  obtain ⟨e, g1, g2⟩ := loop?_eq hs
  obtain ⟨hb, _⟩ := h.loopAt hl hs
  obtain ⟨lD, h4, h4'⟩ := h4
  exact h.setObj hp hl (by intro e' he' c hc; rw [g1] at he'; cases he'; rw [g2] at hc; cases hc) fun w' hw' => ⟨hb, r', lD, hw', h1, h2, h3, h4, h4', h5⟩

/-- What is left behind a range over a function. -/
theorem range_post {N : Nat} {μ : Mu} {s : St} {w : World} {fr : Fr} {l : Nat} {loc : Loc} {rr : OptRes} {q : Ran} (h : rangeDone l fr rr = some q) {res : CRes × St} (hr : rr = some res) (hl : μ l = some loc) {F : Fence} {a : Act} (hfr : FrR μ N fr a)
    {μ0 : Mu} {s0 : St} {w0 : World} (hk0 : Kept B0 μ0 s0 w0 μ s w) {e : Ending} {w' : World} (hc : CallR (LoopLR ty E) B0 μ s w res e w') :
    rangePost F 0 P loc.block (PostR (LoopLR ty E) B0 N μ0 s0 w0 q) a e w' := by
  subst hr
  obtain ⟨μ', h1, h2, h3⟩ := hc
  unfold rangeDone at h
  rw [optR_eq] at h
  obtain ⟨p, hp, h⟩ := h
  cases hp
  obtain ⟨cr, s'⟩ := res
  cases cr with
  | panic v => simp only at h; cases h
  | ret v =>
    simp only at h
    rw [optR_eq] at h
    obtain ⟨R, h4, h⟩ := h
    cases hb : isBusy R.state with
    | true => rw [hb] at h; cases h
    | false =>
      rw [hb, cond_false, optR_eq] at h
      obtain ⟨s4, h5, h⟩ := h
      cases h3 with
      | ret hv =>
        have hl' := h2.ext _ _ hl
        obtain ⟨hb0, r, lD, g1, g2, g3, g4, g5, g6, g7⟩ := h1.loopAt hl' h4
        have hnb : r.state ≠ .busy := by rw [g2]; intro x; rw [x] at hb; cases hb
        obtain ⟨k1, k2⟩ := h1.putLoop (r' := { r with state := .exhausted }) hl' h4 h5 rfl g3 g4 ⟨lD, g5, g6⟩ g7
        refine ⟨r.pending, _, run_endLoop g1 hnb, ?_⟩
        have hkk := hk0.trans (h2.trans k2)
        have hfr' := hfr.mono h2.ext
        generalize w'.putObj loc.block _ = w4 at k1 hkk ⊢
        cases hpend : R.pending with
        | none =>
          rw [hpend] at h g3
          cases h
          have : r.pending = none := g3
          rw [this]
          exact ⟨μ', k1, hkk, hfr', .normal⟩
        | ret =>
          rw [hpend] at h g3
          cases h
          have : r.pending = some .ret := g3
          rw [this]
          exact wpIn_ret ⟨μ', k1, hkk, hfr', .ret⟩
        | exit id =>
          rw [hpend] at h g3
          cases h
          have : r.pending = some (.exit id) := g3
          rw [this]
          exact wpIn_exit ⟨μ', k1, hkk, hfr', .exit id⟩

/-- A range over a function. -/
theorem range_sound {rec : Rec} (hC : CallsOk (LoopLR ty E) B0 P (calls E rec)) {N fid : Nat} {rd : Option Nat} {g : Operand} {ag : AX} (hg : compX g = some ag) {ps : Array Tmp} {assign body : Code} (hps : ∀ p ∈ ps.toList, p < N)
    (hca : ∀ L, E.rounds (keyOf fid g) = some L → ps.toList = L.ps ∧ comp ty N fid assign = some L.assign ∧ comp ty N fid body = some L.body) (hra : RangesOk ty E N fid assign) (hrb : RangesOk ty E N fid body)
    {μ : Mu} {F : Fence} (hfe : FenceR μ rd F) {fr : Fr} {s : St} {q : Ran} {gv : Value} (hgv : ev fr.tm ag = some gv) (h : rangeFV E rec rd gv (keyOf fid g) fr s = some q) {a : Act} {w : World} (hR : Rel (LoopLR ty E) B0 μ s w) (hfr : FrR μ N fr a)
    {μ0 : Mu} {s0 : St} {w0 : World} (hk0 : Kept B0 μ0 s0 w0 μ s w) : (Code.rangeFunc g ps assign body).wpIn F 0 P (PostR (LoopLR ty E) B0 N μ0 s0 w0 q) a w := by
  have hgr := evR hg hgv hfr.tr
  unfold rangeFV at h
  cases gv <;> simp only at h <;> try (cases h; done)
  rename_i fn first cap
  cases fn <;> simp only at h <;> try (cases h; done)
  rename_i f
  cases hfirst : first.toList.isEmpty with
  | false => rw [hfirst] at h; cases h
  | true =>
    rw [hfirst, cond_true] at h
    obtain ⟨first', cap', e1, e2, e3⟩ := hgr.func_inv
    have hf0 : first' = #[] := by
      apply Array.ext'
      have h1 := e2.length
      have h2 : first.toList.length = 0 := by simpa using hfirst
      rw [h2] at h1
      exact List.eq_nil_of_length_eq_zero h1.symm
    subst hf0
    have hLR : ∀ (st : LoopState) (fn : FuncId) (d : Nat), LoopLR ty E (keyOf fid g) { state := st, pending := none, fn, tmps := a.tmps, params := ps, assign, body, defers := d } := by
      intro st fn d L hL
      obtain ⟨h1, h2, h3⟩ := hca L hL
      exact ⟨N, fid, h1, fun p hp => hps p (h1 ▸ hp), hfr.size, h2, h3, hra, hrb⟩
    have hres : ∀ (l : Nat) (w1 : World), (resolve a.eval (rangeCall g l) 0).run P w1 = .ok { target := .fn (.func f) cap', args := #[.func (.yield l) #[] #[]] } w1 := by
      intro l w1
      have hm : #[Operand.const (.func (.yield l) #[] #[])].map a.eval = #[.func (.yield l) #[] #[]] := by apply Array.ext'; simp [Act.eval]
      unfold resolve
      simp only [hm, e1, Deferred.ofValue]
      rfl
    have hin : ∀ {μ1 : Mu} {s1 : St} {w1 : World} (l : Nat) (loc : Loc), Rel (LoopLR ty E) B0 μ1 s1 w1 → GOk μ1 → Ext μ μ1 → μ1 l = some loc → ∀ res, callV E rec f (.func (.yield l) #[] #[] :: cap.toList) s1 = some res →
        (invoke (.fn (.func f) cap') #[.func (.yield loc.block) #[] #[]]).run P w1 = .ok (.enter f (.func (.yield loc.block) #[] #[] :: cap'.toList).toArray) w1 ∧
          CallsIn Fence.wide 0 P f (.func (.yield loc.block) #[] #[] :: cap'.toList).toArray w1 (CallR (LoopLR ty E) B0 μ1 s1 w1 res) := by
      intro μ1 s1 w1 l loc hR1 hG1 hext hl res hcall
      obtain ⟨c1, Fm, b, c2, c3, c4⟩ := hC.fn f _ s1 res hcall μ1 w1 (.func (.yield loc.block) #[] #[] :: cap'.toList) hR1 hG1 (.cons (.yield hl) (VRs.mono hext e3))
      refine ⟨?_, c1⟩
      show (callFunc f _).run P w1 = _
      rw [callFunc_enter c2 c3 c4]
      congr 2
      apply Array.ext'
      simp
    cases rd with
    | none =>
      cases hfe
      simp only at h
      unfold rangeIn at h
      -- the block of the rounds' deferred calls
      obtain ⟨r1, r2⟩ := hR.newObj (o := .deferred true) (O := .deferred (some [])) (lim := 0) ⟨rfl, World.alloc_heap_new _ _⟩
      have hD := Mu.put_same μ s.next ⟨w.heap.size, 0, 0⟩
      -- the record
      have htr1 : TR (μ.put s.next ⟨w.heap.size, 0, 0⟩) fr.tm a.tmps := hfr.tr.mono r2.ext
      refine wpIn_rangeFunc fun fn _ => ?_
      obtain ⟨r3, r4⟩ := r1.newObj (o := .loop .ready .none fr.tm (keyOf fid g) s.next) (O := .loop { state := .ready, pending := none, fn, tmps := a.tmps, params := ps, assign, body, defers := w.heap.size }) (lim := 0)
        ⟨rfl, _, ⟨w.heap.size, 0, 0⟩, World.alloc_heap_new _ _, rfl, rfl, htr1.mono (Mu.put_ext _ r1.mu_next), Mu.put_ext _ r1.mu_next _ _ hD, rfl, hLR _ _ _⟩
      have hl := Mu.put_same (μ.put s.next ⟨w.heap.size, 0, 0⟩) (s.new (.deferred true)).next ⟨(w.alloc (.deferred (some []))).heap.size, 0, 0⟩
      have hext := r2.ext.trans r4.ext
      cases hres' : callV E rec f (.func (.yield (s.new (.deferred true)).next) #[] #[] :: cap.toList) ((s.new (.deferred true)).new (.loop .ready .none fr.tm (keyOf fid g) s.next)) with
      | none => rw [hres'] at h; unfold rangeDone at h; rw [optR_eq] at h; obtain ⟨_, x, _⟩ := h; cases x
      | some res =>
        obtain ⟨i1, i2⟩ := hin _ _ r3 (hfr.tr.mono hext).1 hext hl res hres'
        have hsz : (w.alloc (.deferred (some []))).heap.size = w.heap.size + 1 := by simp
        rw [hsz] at i1 i2 hl r3 r4
        have hfr2 : FrR ((μ.put s.next ⟨w.heap.size, 0, 0⟩).put (s.new (.deferred true)).next ⟨w.heap.size + 1, 0, 0⟩) N ⟨fr.tm, mark s.next :: fr.defers⟩ { a with defers := [{ target := .collected w.heap.size, args := #[] }] ++ a.defers } :=
          ⟨hfr.tr.mono (r2.ext.trans r4.ext), .cons (.mark (l := ⟨w.heap.size, 0, 0⟩) (r4.ext _ _ hD)) (DefsR.mono (r2.ext.trans r4.ext) hfr.defs), hfr.size⟩
        exact ⟨w.heap.size + 1, [{ target := .collected w.heap.size, args := #[] }], _, _, _, f, _, _, run_enterLoop_outer fn a.tmps ps assign body, hres _ _, fun _ _ => trivial, i1,
          fun h => by simp [Fence.wide] at h, i2.mono fun e w' hcr => range_post h hres' hl hfr2 (hk0.trans (r2.trans r4)) hcr⟩
    | some l0 =>
      obtain ⟨loc0, hl0, rfl⟩ := hfe
      simp only at h
      rw [optR_eq] at h
      obtain ⟨R0, hR0, h⟩ := h
      unfold rangeIn at h
      obtain ⟨hb0, r0, lD, g1, g2, g3, g4, g5, g6, g7⟩ := hR.loopAt hl0 hR0
      refine wpIn_rangeFunc fun fn _ => ?_
      obtain ⟨r3, r4⟩ := hR.newObj (o := .loop .ready .none fr.tm (keyOf fid g) R0.defers) (O := .loop { state := .ready, pending := none, fn, tmps := a.tmps, params := ps, assign, body, defers := r0.defers }) (lim := 0)
        ⟨rfl, _, lD, World.alloc_heap_new _ _, rfl, rfl, hfr.tr.mono (Mu.put_ext _ hR.mu_next), Mu.put_ext _ hR.mu_next _ _ g5, g6, hLR _ _ _⟩
      have hl := Mu.put_same μ s.next ⟨w.heap.size, 0, 0⟩
      cases hres' : callV E rec f (.func (.yield s.next) #[] #[] :: cap.toList) (s.new (.loop .ready .none fr.tm (keyOf fid g) R0.defers)) with
      | none => rw [hres'] at h; unfold rangeDone at h; rw [optR_eq] at h; obtain ⟨_, x, _⟩ := h; cases x
      | some res =>
        obtain ⟨i1, i2⟩ := hin _ _ r3 (hfr.tr.mono r4.ext).1 r4.ext hl res hres'
        exact ⟨w.heap.size, [], _, _, _, f, _, _, run_enterLoop_inner g1 fn a.tmps ps assign body, hres _ _, fun _ _ => trivial, i1,
          fun h => by simp [Fence.wide, Fence.inRound] at h, (i2.inRound _).mono fun e w' hcr => range_post h hres' hl (hfr.mono r4.ext) (hk0.trans r4) hcr⟩

end
end Go.AI

/-! The abstract interpreter: one step of its fuel. -/
namespace Go.AI
open Go.RowKit

/-- The regions that draw their order. -/
def DrawS (P : Program) (ty : Types) (LR : LoopOk) (B0 : Nat) (C : Calls') : Prop :=
  ∀ (N : Nat) (ops : Array Oper) (l : List AO), compDraw ty N ops = some (.drawn l) → ∀ (rd : Option Nat) (F : Fence) (μ : Mu), FenceR μ rd F → ∀ (fr : Fr) (s : St) (q : Ran), drawnV C rd l l [] fr s = some q →
    ∀ (a : Act) (w : World), Rel LR B0 μ s w → FrR μ N fr a → ∀ (μ0 : Mu) (s0 : St) (w0 : World), Kept B0 μ0 s0 w0 μ s w → ∀ id : Nat, (Code.region id ops true).wpIn F 0 P (PostR LR B0 N μ0 s0 w0 q) a w

section
variable {P : Program} {ty : Types} {E : Env} {B0 : Nat}

theorem compDraw_drawn {N : Nat} {ops : Array Oper} {c : AC} (h : compDraw ty N ops = some c) : ∃ l, c = .drawn l := by
  unfold compDraw at h
  simp only [Option.bind_eq_bind, Option.bind_eq_some_iff] at h
  obtain ⟨l, _, h⟩ := h
  split at h
  · simp only [Option.map_eq_some_iff] at h
    obtain ⟨l', _, rfl⟩ := h
    exact ⟨l', rfl⟩
  · cases h

theorem condV_eq {v : Value} {t f : OptRan} {q : Ran} (h : condV v t f = some q) : ∃ b, v = .bool b ∧ (if b then t else f) = some q := by
  unfold condV at h
  cases v <;> simp only at h <;> try (cases h; done)
  rename_i b
  cases b <;> exact ⟨_, rfl, h⟩

theorem RangesOk.left {N fid : Nat} {c d : Code} {f : Code → Code → Code} (hf : rangesOf fid (f c d) = rangesOf fid c ++ rangesOf fid d) (h : RangesOk ty E N fid (f c d)) : RangesOk ty E N fid c :=
  fun q hq => h q (by rw [hf]; exact List.mem_append_left _ hq)
theorem RangesOk.right {N fid : Nat} {c d : Code} {f : Code → Code → Code} (hf : rangesOf fid (f c d) = rangesOf fid c ++ rangesOf fid d) (h : RangesOk ty E N fid (f c d)) : RangesOk ty E N fid d :=
  fun q hq => h q (by rw [hf]; exact List.mem_append_right _ hq)

/-- How a walk goes on behind another. -/
theorem seq_post {LR : LoopOk} {N : Nat} {p q : Ran} {μ0 : Mu} {s0 : St} {w0 : World} {X : Act → World → Prop} (hn : p.1 = .normal → ∀ μ' a' w', Rel LR B0 μ' p.2.2 w' → FrR μ' N p.2.1 a' → Kept B0 μ0 s0 w0 μ' p.2.2 w' → X a' w')
    (hx : p.1 ≠ .normal → p = q) {e : Exit} {a' : Act} {w' : World} (h : PostR LR B0 N μ0 s0 w0 p e a' w') : Exit.then X (PostR LR B0 N μ0 s0 w0 q) e a' w' := by
  have h' := h
  obtain ⟨μ', h1, h2, h3, h4⟩ := h
  obtain ⟨pe, pfr, ps⟩ := p
  cases h4 with
  | normal => exact hn rfl μ' a' w' h1 h3 h2
  | exit id => obtain rfl := hx (by simp); exact h'
  | ret => obtain rfl := hx (by simp); exact h'
  | panic hv => obtain rfl := hx (by simp); exact h'

theorem code_step {k : Nat} (T : TyOk P ty) (hC : CallsOk (LoopLR ty E) B0 P (calls E (exec E k))) (hD : DrawS P ty (LoopLR ty E) B0 (calls E (exec E k))) (ih : ∀ j, j ≤ k → CodeOk P ty E B0 (exec E j)) : CodeOk P ty E B0 (stepV E (exec E k)) := by
  intro rd c fr s q h N fid code
  have ihk := ih k (Nat.le_refl _)
  induction code generalizing c with
  | skip =>
    intro hc _ μ F a w hR hfr μ0 s0 w0 hfe hk0
    cases hc; cases h
    exact wpIn_skip ⟨μ, hR, hk0, hfr, .normal⟩
  | label l =>
    intro hc _ μ F a w hR hfr μ0 s0 w0 hfe hk0
    cases hc; cases h
    exact wpIn_label ⟨μ, hR, hk0, hfr, .normal⟩
  | region id ops draw =>
    intro hc _ μ F a w hR hfr μ0 s0 w0 hfe hk0
    cases draw with
    | true =>
      have hc' : compDraw ty N ops = some c := hc
      obtain ⟨l, rfl⟩ := compDraw_drawn hc'
      exact hD N ops l hc' rd F μ (hfe.mono hk0.ext) fr s q h a w hR hfr μ0 s0 w0 hk0 id
    | false =>
      have hc' : (compAll ty N ops (List.range ops.size)).map .ops = some c := hc
      rw [Option.map_eq_some_iff] at hc'
      obtain ⟨l, hl, rfl⟩ := hc'
      exact wpIn_region (ops_sound T hC _ l hl (hfe.mono hk0.ext) h hR hfr hk0)
  | seq x y _ _ =>
    intro hc hr μ F a w hR hfr μ0 s0 w0 hfe hk0
    simp only [comp, Option.bind_eq_bind, Option.bind_eq_some_iff, Option.some.injEq] at hc
    obtain ⟨cx, hx, cy, hy, rfl⟩ := hc
    have h' : seqV (exec E k rd cx fr s) (exec E k rd cy) = some q := h
    rw [seqV_eq] at h'
    obtain ⟨p, h1, h2⟩ := h'
    refine wpIn_seq (wpIn_mono (ihk rd cx fr s p h1 N fid x hx (RangesOk.left (f := .seq) rfl hr) μ F a w hR hfr μ0 s0 w0 hfe hk0) ?_)
    intro e a' w' hp
    refine seq_post ?_ ?_ hp
    · intro hn μ' a' w' hR' hfr' hk'
      rcases h2 with ⟨_, h2⟩ | ⟨rfl, h2⟩
      · exact ihk rd cy p.2.1 p.2.2 q h2 N fid y hy (RangesOk.right (f := .seq) rfl hr) μ' F a' w' hR' hfr' μ0 s0 w0 hfe hk'
      · rcases h2 with ⟨id, h2⟩ | h2 | ⟨v, h2⟩ <;> rw [hn] at h2 <;> cases h2
    · intro hn
      rcases h2 with ⟨h2, _⟩ | ⟨h2, _⟩
      · exact absurd h2 hn
      · exact h2
  | cond x y z _ _ =>
    intro hc hr μ F a w hR hfr μ0 s0 w0 hfe hk0
    simp only [comp, Option.bind_eq_bind, Option.bind_eq_some_iff, Option.some.injEq] at hc
    obtain ⟨cx, hx, cy, hy, cz, hz, rfl⟩ := hc
    have h' : (optR (ev fr.tm cx) fun v => condV v (exec E k rd cy fr s) (exec E k rd cz fr s)) = some q := h
    rw [optR_eq] at h'
    obtain ⟨v, h1, h'⟩ := h'
    obtain ⟨b, rfl, h'⟩ := condV_eq h'
    refine wpIn_cond (t := b) (evR hx h1 hfr.tr).bool_inv ?_
    cases b
    · exact ihk rd cz fr s q h' N fid z hz (RangesOk.right (f := .cond x) rfl hr) μ F a w hR hfr μ0 s0 w0 hfe hk0
    · exact ihk rd cy fr s q h' N fid y hy (RangesOk.left (f := .cond x) rfl hr) μ F a w hR hfr μ0 s0 w0 hfe hk0
  | block id b _ =>
    intro hc hr μ F a w hR hfr μ0 s0 w0 hfe hk0
    simp only [comp, Option.map_eq_some_iff] at hc
    obtain ⟨cb, hb, rfl⟩ := hc
    have h' : blockV id (exec E k rd cb fr s) = some q := h
    unfold blockV at h'
    rw [optE_eq] at h'
    obtain ⟨p, h1, h'⟩ := h'
    refine wpIn_block (wpIn_mono (ihk rd cb fr s p h1 N fid b hb hr μ F a w hR hfr μ0 s0 w0 hfe hk0) ?_)
    intro e a' w' hp
    have hp' := hp
    obtain ⟨μ', g1, g2, g3, g4⟩ := hp
    obtain ⟨pe, pfr, ps⟩ := p
    cases g4 with
    | normal => simp at h'; subst h'; exact hp'
    | exit id' =>
      simp only at h'
      show if id' = id then _ else _
      cases hid : Nat.beq id' id with
      | true =>
        rw [hid] at h'
        cases h'
        rw [if_pos (eq_of_nbeq hid)]
        exact ⟨μ', g1, g2, g3, .normal⟩
      | false =>
        rw [hid] at h'
        cases h'
        rw [if_neg (by intro x; subst x; rw [Nat.beq_refl] at hid; cases hid)]
        exact hp'
    | ret => simp at h'; subst h'; exact hp'
    | panic hv => simp at h'; subst h'; exact hp'
  | loop b _ =>
    intro hc hr μ F a w hR hfr μ0 s0 w0 hfe hk0
    simp only [comp, Option.map_eq_some_iff] at hc
    obtain ⟨cb, hb, rfl⟩ := hc
    have hr' : RangesOk ty E N fid b := hr
    refine wpIn_loop_fuel (j := k + 1) (fun j a w => j ≤ k + 1 ∧ ∃ fr s μ, exec E j rd (.loop cb) fr s = some q ∧ Rel (LoopLR ty E) B0 μ s w ∧ FrR μ N fr a ∧ Kept B0 μ0 s0 w0 μ s w) ?_
      ⟨Nat.le_refl _, fr, s, μ, by rw [exec_succ]; exact h, hR, hfr, hk0⟩
    rintro j a w ⟨hj, fr, s, μ, h1, hR, hfr, hk⟩
    cases j with
    | zero => rw [exec_zero] at h1; cases h1
    | succ j =>
      rw [exec_succ] at h1
      have h' : seqV (exec E j rd cb fr s) (exec E j rd (.loop cb)) = some q := h1
      rw [seqV_eq] at h'
      obtain ⟨p, h2, h3⟩ := h'
      refine wpIn_mono (ih j (by omega) rd cb fr s p h2 N fid b hb hr' μ F a w hR hfr μ0 s0 w0 hfe hk) ?_
      intro e a' w' hp
      refine seq_post ?_ ?_ hp
      · intro hn μ' a' w' hR' hfr' hk'
        rcases h3 with ⟨_, h3⟩ | ⟨rfl, h3⟩
        · exact ⟨j, Nat.lt_succ_self _, by omega, p.2.1, p.2.2, μ', h3, hR', hfr', hk'⟩
        · rcases h3 with ⟨id, h3⟩ | h3 | ⟨v, h3⟩ <;> rw [hn] at h3 <;> cases h3
      · intro hn
        rcases h3 with ⟨h3, _⟩ | ⟨h3, _⟩
        · exact absurd h3 hn
        · exact h3
  | scope b ihb =>
    intro hc hr μ F a w hR hfr μ0 s0 w0 hfe hk0
    exact wpIn_scope (fun _ _ _ => PostR.no_goto) (ihb c h hc hr μ F a w hR hfr μ0 s0 w0 hfe hk0)
  | exit id =>
    intro hc _ μ F a w hR hfr μ0 s0 w0 hfe hk0
    cases hc; cases h
    exact wpIn_exit ⟨μ, hR, hk0, hfr, .exit id⟩
  | ret =>
    intro hc _ μ F a w hR hfr μ0 s0 w0 hfe hk0
    cases hc; cases h
    exact wpIn_ret ⟨μ, hR, hk0, hfr, .ret⟩
  | rangeFunc g ps assign body _ _ =>
    intro hc hr μ F a w hR hfr μ0 s0 w0 hfe hk0
    simp only [comp] at hc
    split at hc
    · rename_i hps
      rw [Option.map_eq_some_iff] at hc
      obtain ⟨ag, hg, rfl⟩ := hc
      have h' : (optR (ev fr.tm ag) fun g' => rangeFV E (exec E k) rd g' (keyOf fid g) fr s) = some q := h
      rw [optR_eq] at h'
      obtain ⟨gv, h1, h2⟩ := h'
      refine range_sound hC hg (fun p hp => ?_) (fun L hL => hr (keyOf fid g, ps, assign, body) (by simp [rangesOf]) L hL) (fun q hq => hr q (by simp [rangesOf, hq])) (fun q hq => hr q (by simp [rangesOf, hq])) (hfe.mono hk0.ext) h1 h2 hR hfr hk0
      have := List.all_eq_true.1 hps p hp
      rw [Nat.blt_eq] at this; exact this
    · cases hc
  | goto l => intro hc; simp [comp] at hc
  | refuse => intro hc; simp [comp] at hc

end
end Go.AI

/-! The abstract interpreter: calls, on the machine. -/
namespace Go.AI
open Go.RowKit

section
variable {P : Program} {ty : Types} {E : Env} {B0 : Nat}

theorem optRes_eq {α : Type} {o : Option α} {k : α → OptRes} {q : CRes × St} : optRes o k = some q ↔ ∃ x, o = some x ∧ k x = some q := optE_eq

/-! ### Arguments -/

theorem argsAt_get : ∀ (vs : List Value) (i : Nat) (tm : Trie Value) (t : Nat) (v : Value), (argsAt i vs tm).get t = some v → (i ≤ t ∧ vs[t - i]? = some v) ∨ tm.get t = some v := by
  intro vs
  induction vs with
  | nil => intro i tm t v h; exact .inr h
  | cons u vs ih =>
    intro i tm t v h
    rcases ih (i + 1) (tm.set i u) t v h with ⟨h1, h2⟩ | h1
    · refine .inl ⟨by omega, ?_⟩
      rw [show t - i = (t - (i + 1)) + 1 by omega]
      simpa using h2
    · rw [Trie.get_set] at h1
      by_cases hti : t = i
      · subst hti; rw [if_pos rfl] at h1; cases h1; exact .inl ⟨Nat.le_refl _, by simp⟩
      · rw [if_neg hti] at h1; exact .inr h1

theorem enter_fr {μ : Mu} {args args' : List Value} (hG : GOk μ) (h : VRs μ args args') (N : Nat) : FrR μ N (enter args) { tmps := args'.toArray ++ Array.replicate (N - args'.toArray.size) Go.undef, defers := [] } := by
  refine ⟨⟨hG, fun t v ht => ?_⟩, .nil, ?_⟩
  · rcases argsAt_get args 0 .leaf t v ht with ⟨_, h1⟩ | h1
    · obtain ⟨v', h2, h3⟩ := h.get h1
      refine ⟨v', ?_, h3⟩
      have hlt : t < args'.length := (List.getElem?_eq_some_iff.1 (by simpa using h2)).1
      rw [Array.getElem?_append_left (by simpa using hlt)]
      simpa using h2
    · simp at h1
  · simp only [Array.size_append, List.size_toArray, Array.size_replicate]; omega

/-! ### Results -/

/-- One result. -/
def resultSem (tmps : Array Value) : ResultVar → Sem Value
  | .tmp t => pure (tmps.getD t Go.undef)
  | .cell a t => do loadVar t (← asAddr (tmps.getD a Go.undef))

theorem results_eq (fn : Func) (tmps : Array Value) : results fn tmps = (do
    let vs ← fn.results.mapM (resultSem tmps)
    pure (if h : vs.size = 1 then vs[0] else .tuple vs) : Sem Value) := rfl

theorem resultV_run (T : TyOk P ty) {LR : LoopOk} {μ : Mu} {s : St} {w : World} (hR : Rel LR B0 μ s w) {fr : Fr} {N : Nat} {a : Act} (hfr : FrR μ N fr a) {rv : ResultVar} {ar : AR} (hc : compR ty rv = some ar) {v : Value} (h : resultV fr.tm s ar = some v) :
    ∃ v', (resultSem a.tmps rv).run P w = .ok v' w ∧ VR μ v v' := by
  cases rv with
  | tmp t =>
    cases hc
    obtain ⟨v', h1, h2⟩ := hfr.tr.2 t v h
    exact ⟨v', by simp [resultSem, h1], h2⟩
  | cell c t =>
    simp only [compR, Option.map_eq_some_iff] at hc
    obtain ⟨i, hi, rfl⟩ := hc
    have hload : ∀ (x : Operand) (b off : Nat) (l : Loc), fr.tm.get c = some (.pointer (some ⟨b, off, none⟩)) → μ b = some l → (asAddr (a.tmps.getD c Go.undef)).run P w = .ok ⟨l.block, l.base + off, none⟩ w := by
      intro x b off l h1 hl
      obtain ⟨v', h2, h3⟩ := hfr.tr.2 c _ h1
      obtain ⟨l', _, hl', e⟩ := h3.ptr_inv
      simp only at hl' e
      rw [hl] at hl'; cases hl'
      subst e
      simp [h2, asAddr]
    cases hg : i.agg with
    | false =>
      rw [hg] at h
      have h' : (match fr.tm.get c with | some p => (match loadV s p with | some q => some q.1 | none => none) | none => none) = some v := h
      cases hp : fr.tm.get c with
      | none => rw [hp] at h'; cases h'
      | some p =>
        rw [hp] at h'
        simp only at h'
        cases hlv : loadV s p with
        | none => rw [hlv] at h'; cases h'
        | some q =>
          rw [hlv] at h'; cases h'
          have hl2 := hlv
          unfold loadV at hl2
          rw [ptrV_eq] at hl2
          obtain ⟨b, off, rfl, hl2⟩ := hl2
          rw [cellsV_eq] at hl2
          obtain ⟨cc, h2, hl2⟩ := hl2
          rw [optV_eq] at hl2
          obtain ⟨r, h3, h4⟩ := hl2
          cases h4
          obtain ⟨pv, h5, h6⟩ := hfr.tr.2 c _ hp
          obtain ⟨l, _, hl, e⟩ := h6.ptr_inv
          obtain ⟨v', g1, g2⟩ := hR.cell hl h2 h3
          refine ⟨v', ?_, g2⟩
          simp only [resultSem, Sem.run_bind, hload (.tmp c) b off l hp hl, Result.andThen_ok, loadVar, T.run_agg hi, hg, Bool.false_eq_true, if_false]
          simp [g1]
    | true =>
      rw [hg] at h
      have h' : (match fr.tm.get c with | some p => (match loadNV s i.size p with | some q => some q.1 | none => none) | none => none) = some v := h
      cases hp : fr.tm.get c with
      | none => rw [hp] at h'; cases h'
      | some p =>
        rw [hp] at h'
        simp only at h'
        cases hlv : loadNV s i.size p with
        | none => rw [hlv] at h'; cases h'
        | some q =>
          rw [hlv] at h'; cases h'
          have hl2 := hlv
          unfold loadNV at hl2
          rw [ptrV_eq] at hl2
          obtain ⟨b, off, rfl, hl2⟩ := hl2
          rw [cellsV_eq] at hl2
          obtain ⟨cc, h2, hl2⟩ := hl2
          rw [optV_eq] at hl2
          obtain ⟨r, h3, h4⟩ := hl2
          cases h4
          rw [Option.map_eq_some_iff] at h3
          obtain ⟨sb, h3, rfl⟩ := h3
          obtain ⟨pv, h5, h6⟩ := hfr.tr.2 c _ hp
          obtain ⟨l, _, hl, e⟩ := h6.ptr_inv
          obtain ⟨r', g1, g2, _, g4⟩ := hR.shown hl h2 h3
          have hrun := run_loadCells_list (P := P) w ⟨l.block, l.base + off, none⟩ r' (fun j x hj => by rw [add_none]; exact g4 j x hj)
          rw [g1] at hrun
          refine ⟨.agg r'.toArray, ?_, VR.aggOf g2⟩
          simp only [resultSem, Sem.run_bind, hload (.tmp c) b off l hp hl, Result.andThen_ok, loadVar, T.run_agg hi, hg, if_true, T.run_size hi, hrun, Sem.run_pure]

theorem results_run (T : TyOk P ty) {LR : LoopOk} {μ : Mu} {s : St} {w : World} (hR : Rel LR B0 μ s w) {fr : Fr} {N : Nat} {a : Act} (hfr : FrR μ N fr a) {Fm : Func} {ars : List AR} (hc : Fm.results.toList.mapM (compR ty) = some ars) {vs : List Value}
    (h : resultsV fr.tm s ars = some vs) : ∃ v', (results Fm a.tmps).run P w = .ok v' w ∧ VR μ (oneOf vs) v' := by
  have key : ∀ (rs : List ResultVar) (ars : List AR) (vs : List Value), rs.mapM (compR ty) = some ars → resultsV fr.tm s ars = some vs →
      ∃ vs', (rs.mapM (resultSem a.tmps)).run P w = .ok vs' w ∧ VRs μ vs vs' := by
    intro rs
    induction rs with
    | nil => intro ars vs h1 h2; simp at h1; subst h1; simp [resultsV] at h2; subst h2; exact ⟨[], by simp, .nil⟩
    | cons r rs ih =>
      intro ars vs h1 h2
      simp only [List.mapM_cons, Option.bind_eq_bind, Option.bind_eq_some_iff, Option.pure_def, Option.some.injEq] at h1
      obtain ⟨ar, g1, ars', g2, rfl⟩ := h1
      simp only [resultsV] at h2
      cases hv : resultV fr.tm s ar with
      | none => rw [hv] at h2; cases h2
      | some v =>
        rw [hv] at h2
        simp only at h2
        cases hvs : resultsV fr.tm s ars' with
        | none => rw [hvs] at h2; cases h2
        | some vs1 =>
          rw [hvs] at h2; cases h2
          obtain ⟨v', k1, k2⟩ := resultV_run T hR hfr g1 hv
          obtain ⟨vs', k3, k4⟩ := ih ars' vs1 g2 hvs
          refine ⟨v' :: vs', ?_, .cons k2 k4⟩
          simp only [List.mapM_cons, Sem.run_bind, k1, k3, Sem.run_pure, Result.andThen_ok]
  obtain ⟨vs', k1, k2⟩ := key _ _ _ hc h
  rw [results_eq]
  simp only [Sem.run_bind]
  rw [Array.mapM_eq_mapM_toList, Sem.run_map]
  refine ⟨oneOf vs', ?_, ?_⟩
  · rw [k1]
    simp only [Result.andThen_ok, Sem.run_pure]
    congr 1
    cases vs' with
    | nil => simp [oneOf]
    | cons x xs =>
      cases xs with
      | nil => simp [oneOf]
      | cons y ys => simp [oneOf]
  · cases k2 with
    | nil => exact VR.tupleOf .nil
    | cons h1 h2 =>
      cases h2 with
      | nil => exact h1
      | cons h3 h4 => exact VR.tupleOf (.cons h1 (.cons h3 h4))

end
end Go.AI

/-! The abstract interpreter: functions, rounds and methods, on the machine. -/
namespace Go.AI
open Go.RowKit

/-- What is known of the program's functions and methods is true. -/
structure EnvOk (P : Program) (ty : Types) (E : Env) (B0 : Nat) : Prop where
  fn : ∀ f F, E.fn f = some F → ∃ Fm b, P.funcs[f]? = some Fm ∧ Fm.body = some b ∧ (Fm.name == "runtime.NumGoroutine") = false ∧ comp ty Fm.ntmps f b = some F.body ∧ Fm.results.toList.mapM (compR ty) = some F.results ∧
    RangesOk ty E Fm.ntmps f b
  dfr : ∀ f F l c, E.fn f = some F → F.results = [] → F.body = .seq (.ops l) c → ∃ Fm id ops b, P.funcs[f]? = some Fm ∧ Fm.body = some (.seq (.region id ops false) b)
  meth : ∀ t name f how, E.meth t name = some (f, how) → ∀ (v : Value) (w : World), match how with
    | none => (method (P.types.size + Made.depth) t v name).run P w = .ok (f, v) w
    | some p => ∀ a q, v = .pointer (some a) → ((if p.1 then (do pure (.agg (← loadCells a p.2))) else load a : Sem Value).run P w = .ok q w) → (method (P.types.size + Made.depth) t v name).run P w = .ok (f, q) w
  spec : ∀ f args s r, E.spec f args s = some (some r) → ∀ μ w args', Rel (LoopLR ty E) B0 μ s w → GOk μ → VRs μ args args' →
    CallsIn Fence.wide 0 P f args'.toArray w (CallR (LoopLR ty E) B0 μ s w r) ∧ ∃ Fm b, P.funcs[f]? = some Fm ∧ Fm.body = some b ∧ (Fm.name == "runtime.NumGoroutine") = false

/-- The panic that is on its way, on both sides. -/
inductive ModeR (μ : Mu) : Option Value → FrameMode → Prop
  | ret : ModeR μ none .returning
  | panic {v v' : Value} (h : VR μ v v') : ModeR μ (some v) (.panicking [{ v := v', recovered := false }])
theorem ModeR.mono {μ μ' : Mu} (hx : Ext μ μ') {p : Option Value} {u : FrameMode} (h : ModeR μ p u) : ModeR μ' p u := by
  cases h with
  | ret => exact .ret
  | panic h => exact .panic (h.mono hx)
theorem ModeR.not_run {μ : Mu} {p : Option Value} {u : FrameMode} (h : ModeR μ p u) : u ≠ .run := by cases h <;> simp

/-- A function that is called as a deferred one. -/
def DeferS (P : Program) (ty : Types) (E : Env) (B0 : Nat) (rec : Rec) : Prop :=
  ∀ g args p s q, deferred E rec g args p s = some q → ∀ μ w args' u, Rel (LoopLR ty E) B0 μ s w → GOk μ → VRs μ args args' → ModeR μ p u →
    (∃ Fm b, P.funcs[g]? = some Fm ∧ Fm.body = some b ∧ (Fm.name == "runtime.NumGoroutine") = false) ∧
    CallsDIn Fence.wide 0 P g args'.toArray u w fun e u' w' => ∃ v μ', e = .returned v ∧ Rel (LoopLR ty E) B0 μ' q.2 w' ∧ Kept B0 μ s w μ' q.2 w' ∧ ModeR μ' (if q.1 then none else p) (settle u')

section
variable {P : Program} {ty : Types} {E : Env} {B0 : Nat}

/-- A frame's deferred calls, and marks. -/
theorem leaves_sound (T : TyOk P ty) {rec : Rec} (hDf : DeferS P ty E B0 rec) {Fm : Func} {F : AF} (hres : Fm.results.toList.mapM (compR ty) = some F.results) {fr : Fr} {a : Act} {μ0 : Mu} {s0 : St} {w0 : World} {r : CRes × St} {p2 : Option Value} {s2 : St}
    (hfin : (∃ v, p2 = some v ∧ r = (.panic v, s2)) ∨ (p2 = none ∧ ∃ vs, resultsV fr.tm s2 F.results = some vs ∧ r = (.ret (oneOf vs), s2))) :
    ∀ (ds ds' : List Deferred) (p : Option Value) (u : FrameMode) (s : St) (w : World) (μ : Mu), leaveV E rec ds p s = some (p2, s2) → DefsR μ ds ds' → ModeR μ p u → Rel (LoopLR ty E) B0 μ s w → FrR μ Fm.ntmps ⟨fr.tm, []⟩ ⟨a.tmps, []⟩ → Kept B0 μ0 s0 w0 μ s w →
      LeavesInM Fence.wide 0 P Fm a.tmps (CallR (LoopLR ty E) B0 μ0 s0 w0 r) ds' u w := by
  intro ds
  induction ds with
  | nil =>
    intro ds' p u s w μ h hd hm hR hfr hk
    cases hd
    cases h
    rcases hfin with ⟨v, rfl, rfl⟩ | ⟨rfl, vs, hvs, rfl⟩
    · cases hm with
      | panic hv => exact ⟨μ, hR, hk, .panic hv⟩
    · cases hm with
      | ret =>
        obtain ⟨v', k1, k2⟩ := results_run T hR hfr hres hvs
        exact ⟨v', k1, μ, hR, hk, .ret k2⟩
  | cons d ds ih =>
    intro ds' p u s w μ h hd hm hR hfr hk
    cases hd with
    | cons h1 h2 =>
      refine ⟨hm.not_run, ?_⟩
      cases h1 with
      | mark hD =>
        rename_i D l
        left
        simp only [leaveV, mark] at h
        cases he : s.ent? D with
        | none => rw [he] at h; cases h
        | some e =>
          rw [he] at h
          simp only at h
          cases hob : e.obj <;> rw [hob] at h <;> simp only at h <;> try (cases h; done)
          rename_i fresh
          cases fresh with
          | false => cases h
          | true =>
            rw [cond_true] at h
            cases hp : s.put D (.deferred false) with
            | none => rw [hp] at h; cases h
            | some s' =>
              rw [hp] at h
              simp only at h
              have hO := hR.obj D e l he hD
              rw [hob] at hO
              obtain ⟨hb, hO⟩ := hO
              simp only [if_true] at hO
              obtain ⟨g1, g2⟩ := hR.setObj (O := .deferred none) hp hD (by intro e' he' c hc; rw [he] at he'; cases he'; rw [hob] at hc; cases hc) (fun w' hw' => ⟨hb, by simpa using hw'⟩)
              exact ⟨l.block, _, rfl, run_takeDeferred hO, ih _ p u s' _ μ h h2 hm g1 hfr (hk.trans g2)⟩
      | fn hc ha =>
        rename_i g cap args cap' args'
        right
        simp only [leaveV] at h
        cases hq : deferred E rec g (args.toList ++ cap.toList) p s with
        | none => rw [hq] at h; cases h
        | some q =>
          rw [hq] at h
          simp only at h
          obtain ⟨⟨Fg, bg, q1, q2, q3⟩, hcall⟩ := hDf g _ p s q hq μ w (args'.toList ++ cap'.toList) u hR hfr.tr.1 (ha.append hc) hm
          refine ⟨fun h => by simp [Fence.wide] at h, .func g, cap', g, args' ++ cap', rfl, callFunc_enter q1 q2 q3 _ _, fun _ _ => trivial, ?_⟩
          have e0 : (args'.toList ++ cap'.toList).toArray = args' ++ cap' := by apply Array.ext'; simp
          rw [e0] at hcall
          refine hcall.mono ?_
          rintro e u' w' ⟨v, μ', rfl, k1, k2, k3⟩
          have h' : leaveV E rec ds (if q.1 then none else p) q.2 = some (p2, s2) := by cases hq1 : q.1 <;> rw [hq1] at h <;> exact h
          exact ih _ _ _ q.2 w' μ' h' (DefsR.mono k2.ext h2) k3 k1 (hfr.mono k2.ext) (hk.trans k2)

/-- A function's body has been left. -/
theorem done_eq {rec : Rec} {F : AF} {fr : Fr} {p : Option Value} {s : St} {r : CRes × St} (h : doneV E rec F fr p s = some r) : ∃ p2 s2, leaveV E rec fr.defers p s = some (p2, s2) ∧
    ((∃ v, p2 = some v ∧ r = (.panic v, s2)) ∨ (p2 = none ∧ ∃ vs, resultsV fr.tm s2 F.results = some vs ∧ r = (.ret (oneOf vs), s2))) := by
  unfold doneV at h
  cases hl : leaveV E rec fr.defers p s with
  | none => rw [hl] at h; cases h
  | some q =>
    rw [hl] at h
    obtain ⟨p2, s2⟩ := q
    refine ⟨p2, s2, rfl, ?_⟩
    cases p2 with
    | some v => simp at h; exact .inl ⟨v, rfl, h.symm⟩
    | none =>
      simp only at h
      cases hv : resultsV fr.tm s2 F.results with
      | none => rw [hv] at h; cases h
      | some vs => rw [hv] at h; simp at h; exact .inr ⟨rfl, vs, rfl, h.symm⟩

/-- A function of the program. -/
theorem fn_sound (T : TyOk P ty) (hE : EnvOk P ty E B0) {rec : Rec} (hrec : CodeOk P ty E B0 rec) (hDf : DeferS P ty E B0 rec) {f : FuncId} {args : List Value} {s : St} {r : CRes × St} (h : callV E rec f args s = some r) {μ : Mu} {w : World} {args' : List Value}
    (hR : Rel (LoopLR ty E) B0 μ s w) (hG : GOk μ) (hv : VRs μ args args') :
    CallsIn Fence.wide 0 P f args'.toArray w (CallR (LoopLR ty E) B0 μ s w r) ∧ ∃ Fm b, P.funcs[f]? = some Fm ∧ Fm.body = some b ∧ (Fm.name == "runtime.NumGoroutine") = false := by
  unfold callV at h
  cases hs : E.spec f args s with
  | some o =>
    rw [hs] at h
    simp only [optE_some] at h
    subst h
    exact hE.spec f args s r hs μ w args' hR hG hv
  | none =>
    rw [hs] at h
    simp only [optE_none] at h
    unfold callBody at h
    rw [optE_eq] at h
    obtain ⟨F, hF, h⟩ := h
    obtain ⟨Fm, b, h1, h2, h3, h4, h5, h6⟩ := hE.fn f F hF
    refine ⟨?_, Fm, b, h1, h2, h3⟩
    unfold leftV at h
    cases hq : rec none F.body (enter args) s with
    | none => rw [hq] at h; cases h
    | some q =>
      rw [hq] at h
      simp only at h
      have hwp := hrec none F.body (enter args) s q hq Fm.ntmps f b h4 h6 μ Fence.wide _ w hR (enter_fr hG hv Fm.ntmps) μ s w rfl (.refl _ _ _ _)
      refine callsIn_of_wp_marks h1 h2 trivial (wpIn_mono hwp ?_)
      rintro e a' w' ⟨μ', g1, g2, g3, g4⟩
      obtain ⟨qe, qfr, qs⟩ := q
      have hfr' : FrR μ' Fm.ntmps ⟨qfr.tm, []⟩ ⟨a'.tmps, []⟩ := ⟨g3.tr, .nil, g3.size⟩
      cases g4 with
      | normal =>
        obtain ⟨p2, s2, k1, k2⟩ := done_eq h
        exact leaves_sound T hDf h5 k2 _ _ _ _ _ _ _ k1 g3.defs .ret g1 hfr' g2
      | ret =>
        obtain ⟨p2, s2, k1, k2⟩ := done_eq h
        exact leaves_sound T hDf h5 k2 _ _ _ _ _ _ _ k1 g3.defs .ret g1 hfr' g2
      | panic hv =>
        obtain ⟨p2, s2, k1, k2⟩ := done_eq h
        exact leaves_sound T hDf h5 k2 _ _ _ _ _ _ _ k1 g3.defs (.panic hv) g1 hfr' g2
      | exit id => cases h

end
end Go.AI

/-! The abstract interpreter: rounds and methods; all calls. -/
namespace Go.AI
open Go.RowKit

section
variable {P : Program} {ty : Types} {E : Env} {B0 : Nat}

theorem putAll_tr {μ : Mu} : ∀ (ps : List Nat) (vs : List Value) (tm tm' : Trie Value), putAll ps vs tm = some tm' → ∀ (vs' : List Value) (tmps : Array Value) (N : Nat), VRs μ vs vs' → TR μ tm tmps → N ≤ tmps.size → (∀ p ∈ ps, p < N) →
    vs'.length = ps.length ∧ TR μ tm' ((ps.zip vs').foldl (fun tmps (q : Nat × Value) => tmps.setIfInBounds q.1 q.2) tmps) ∧ N ≤ ((ps.zip vs').foldl (fun tmps (q : Nat × Value) => tmps.setIfInBounds q.1 q.2) tmps).size := by
  intro ps
  induction ps with
  | nil =>
    intro vs tm tm' h vs' tmps N hv ht hN hp
    cases vs with
    | nil => cases hv; cases h; exact ⟨rfl, ht, hN⟩
    | cons v vs => cases h
  | cons p ps ih =>
    intro vs tm tm' h vs' tmps N hv ht hN hp
    cases vs with
    | nil => cases h
    | cons v vs =>
      cases hv with
      | cons h1 h2 =>
        rename_i v' vs'
        have h' : putAll ps vs (tm.set p v) = some tm' := h
        have hf : FrR μ N ⟨tm, []⟩ ⟨tmps, []⟩ := ⟨ht, .nil, hN⟩
        have hpN := hp p (by simp)
        have hf2 := hf.put (dst := some p) (by unfold dstOk; rw [Nat.blt_eq]; exact hpN) h1
        obtain ⟨k1, k2, k3⟩ := ih vs _ tm' h' vs' (tmps.setIfInBounds p v') N h2 hf2.tr hf2.size (fun q hq => hp q (by simp [hq]))
        exact ⟨by simp [k1], by simpa using k2, by simpa using k3⟩

/-- A round's end. -/
theorem roundEnd_sound {l : Nat} {loc : Loc} {st : LoopState} {p : Pend} {b : Bool} {μ : Mu} {s : St} {w : World} {r : CRes × St} {jump : Option Code} (hl : μ l = some loc) (h : roundEnd l s st p b = some r) (hR : Rel (LoopLR ty E) B0 μ s w)
    (hst : st = if jump.isNone then .ready else .done) (hp : PendR p jump) (hb : b = jump.isNone) {μ0 : Mu} {s0 : St} {w0 : World} (hk : Kept B0 μ0 s0 w0 μ s w) :
    ∃ v w', (Instr.endRound loc.block jump).run P w = .ok v w' ∧ CallR (LoopLR ty E) B0 μ0 s0 w0 r (.returned v) w' := by
  unfold roundEnd at h
  rw [optRes_eq] at h
  obtain ⟨R, h1, h⟩ := h
  rw [optRes_eq] at h
  obtain ⟨s', h2, h⟩ := h
  cases h
  obtain ⟨hb0, rr, lD, g1, g2, g3, g4, g5, g6, g7⟩ := hR.loopAt hl h1
  obtain ⟨k1, k2⟩ := hR.putLoop (r' := { rr with state := if jump.isNone then .ready else .done, pending := jump }) hl h1 h2 hst.symm hp g4 ⟨lD, g5, g6⟩ g7
  refine ⟨_, _, run_endRound jump g1, μ, k1, hk.trans k2, ?_⟩
  rw [← hb]
  exact .ret (.bool b)

/-- One round of a range over a function. -/
theorem round_sound {rec : Rec} (hrec : CodeOk P ty E B0 rec) {l : Nat} {args : List Value} {s : St} {r : CRes × St} (h : roundV E rec l args s = some r) {μ : Mu} {w : World} {args' : List Value} (hR : Rel (LoopLR ty E) B0 μ s w) {loc : Loc} (hl : μ l = some loc) (hv : VRs μ args args') :
    ∃ g tmps assign body, (Instr.yield loc.block args'.toArray).run P w = .ok (.round loc.block g tmps assign body) w ∧ ∀ rd F, FenceR μ rd F → RoundIn F 0 P loc.block g tmps assign body w (CallR (LoopLR ty E) B0 μ s w r) := by
  unfold roundV at h
  rw [optRes_eq] at h
  obtain ⟨R, h1, h⟩ := h
  rw [optRes_eq] at h
  obtain ⟨L, h2, h⟩ := h
  rw [optRes_eq] at h
  obtain ⟨tm, h3, h⟩ := h
  obtain ⟨hb0, rr, lD, g1, g2, g3, g4, g5, g6, g7⟩ := hR.loopAt hl h1
  obtain ⟨N, fid, q1, q2, q3, q4, q5, q6, q7⟩ := g7 L h2
  obtain ⟨k1, k2, k3⟩ := putAll_tr L.ps args R.tm tm h3 args' rr.tmps N hv g4 q3 q2
  have hsz : args'.toArray.size = rr.params.size := by
    have : rr.params.toList.length = args'.length := by rw [q1, k1]
    simpa using this.symm
  have hfold : (rr.params.zip args'.toArray).foldl (fun tmps (t, a) => tmps.setIfInBounds t a) rr.tmps = (L.ps.zip args').foldl (fun tmps (q : Nat × Value) => tmps.setIfInBounds q.1 q.2) rr.tmps := by
    rw [← Array.foldl_toList, Array.toList_zip, q1]
  refine ⟨rr.fn, _, rr.assign, rr.body, run_yield g1 hsz, fun rd F hF => ?_⟩
  rw [hfold]
  have hFl : F.inRound loc.block = Fence.wide.inRound loc.block := by
    cases rd with
    | none => cases hF; rfl
    | some l' => obtain ⟨_, _, rfl⟩ := hF; rfl
  have hfe : FenceR μ (some l) (Fence.wide.inRound loc.block) := ⟨loc, hl, rfl⟩
  refine roundIn_of_wpIn (hF.fn _) ?_
  rw [hFl]
  unfold roundBody at h
  rw [optRes_eq] at h
  obtain ⟨p, h4, h⟩ := h
  have hwp := hrec (some l) L.assign ⟨tm, []⟩ s p h4 N fid rr.assign q4 q6 μ (Fence.wide.inRound loc.block) { tmps := (L.ps.zip args').foldl (fun tmps (q : Nat × Value) => tmps.setIfInBounds q.1 q.2) rr.tmps, defers := [] } w hR ⟨k2, .nil, k3⟩ μ s w hfe (.refl _ _ _ _)
  refine wpIn_mono hwp ?_
  rintro e a' w' ⟨μ', m1, m2, m3, m4⟩
  obtain ⟨pe, pfr, ps⟩ := p
  cases m4 with
  | exit id => cases h
  | ret => cases h
  | panic _ => cases h
  | normal =>
    simp only at h
    rw [optRes_eq] at h
    obtain ⟨R2, h5, h⟩ := h
    cases hready : isReady R2.state with
    | false => rw [hready] at h; cases h
    | true =>
      rw [hready, cond_true, optRes_eq] at h
      obtain ⟨s2, h6, h⟩ := h
      have hl' := m2.ext _ _ hl
      obtain ⟨_, r2, lD2, n1, n2, n3, n4, n5, n6, n7⟩ := m1.loopAt hl' h5
      have hst : r2.state = .ready := by rw [n2]; cases hs : R2.state <;> rw [hs] at hready <;> first | rfl | cases hready
      obtain ⟨t1, t2⟩ := m1.putLoop (r' := { r2 with state := .busy }) hl' h5 h6 rfl n3 n4 ⟨lD2, n5, n6⟩ n7
      refine ⟨_, run_beginRound n1 hst, ?_⟩
      unfold roundLeft at h
      rw [optRes_eq] at h
      obtain ⟨p2, h7, h⟩ := h
      have hwp2 := hrec (some l) L.body pfr s2 p2 h7 N fid rr.body q5 q7 μ' (Fence.wide.inRound loc.block) a' _ t1 m3 μ s w hfe (m2.trans t2)
      refine wpIn_mono hwp2 ?_
      rintro e2 a2 w2 ⟨μ2, x1, x2, x3, x4⟩
      obtain ⟨pe2, pfr2, ps2⟩ := p2
      simp only at h
      cases hdf : pfr2.defers.isEmpty with
      | false => rw [hdf] at h; cases h
      | true =>
        rw [hdf, cond_true] at h
        have hl2 := x2.ext _ _ hl
        cases x4 with
        | normal => exact roundEnd_sound (jump := none) hl2 h x1 rfl rfl rfl x2
        | ret => exact roundEnd_sound (jump := some .ret) hl2 h x1 rfl rfl rfl x2
        | exit id => exact roundEnd_sound (jump := some (.exit id)) hl2 h x1 rfl rfl rfl x2
        | panic _ => cases h

/-- All calls. -/
theorem calls_ok (T : TyOk P ty) (hE : EnvOk P ty E B0) {rec : Rec} (hrec : CodeOk P ty E B0 rec) (hDf : DeferS P ty E B0 rec) : CallsOk (LoopLR ty E) B0 P (calls E rec) where
  fn := fun f args s r h μ w args' hR hG hv => fn_sound T hE hrec hDf h hR hG hv
  val := by
    intro f args s r h μ w f' args' hR hG hf hv
    have h' : callVal E rec f args s = some r := h
    unfold callVal at h'
    cases f <;> simp only at h' <;> try (cases h'; done)
    rename_i fn first cap
    cases fn <;> simp only at h' <;> try (cases h'; done)
    · rename_i g
      obtain ⟨a', b', rfl, e2, e3⟩ := hf.func_inv
      obtain ⟨c1, Fm, b, c2, c3, c4⟩ := fn_sound T hE hrec hDf h' hR hG ((e2.append hv).append e3)
      refine ⟨_, rfl, .inl ⟨g, a' ++ args'.toArray ++ b', callFunc_enter c2 c3 c4 _ _, ?_⟩⟩
      have e0 : (a'.toList ++ args' ++ b'.toList).toArray = a' ++ args'.toArray ++ b' := by apply Array.ext'; simp
      rw [← e0]; exact c1
    · rename_i l
      obtain ⟨loc, hl, rfl, rfl, rfl⟩ := hf.yield_inv
      simp at h'
      obtain ⟨g, tmps, assign, body, k1, k2⟩ := round_sound hrec h' hR hl hv
      refine ⟨_, rfl, .inr ⟨loc.block, g, tmps, assign, body, ?_, k2⟩⟩
      show (Instr.yield loc.block (#[] ++ args'.toArray)).run P w = _
      rw [Array.empty_append]; exact k1
  inv := by
    intro name x args s r h μ w x' args' hR hG hx hv
    have h' : invokeV E rec name x args s = some r := h
    unfold invokeV at h'
    cases x <;> simp only at h' <;> try (cases h'; done)
    rename_i t v
    obtain ⟨v', rfl, hv'⟩ := hx.iface_inv
    rw [optRes_eq] at h'
    obtain ⟨m, hm, h'⟩ := h'
    obtain ⟨f, how⟩ := m
    have hmeth := hE.meth t name f how hm v' w
    have go : ∀ (q : Value) (q' : Value), VR μ q q' → callV E rec f (q :: args) s = some r → (method (P.types.size + Made.depth) t v' name).run P w = .ok (f, q') w →
        ∃ g args2 w2, (invoke (.fn (.method name) #[]) (#[.iface t v'] ++ args'.toArray)).run P w = .ok (.enter g args2) w2 ∧ w2 = w ∧ CallsIn Fence.wide 0 P g args2 w (CallR (LoopLR ty E) B0 μ s w r) := by
      intro q q' hq hc hmr
      obtain ⟨c1, Fm, b, c2, c3, c4⟩ := fn_sound T hE hrec hDf hc hR hG (.cons hq hv)
      refine ⟨f, #[q'] ++ args'.toArray, w, ?_, rfl, ?_⟩
      · have hget : (#[Value.iface t v'] ++ args'.toArray)[0]? = some (.iface t v') := by simp
        have hext : (#[Value.iface t v'] ++ args'.toArray).extract 1 (#[Value.iface t v'] ++ args'.toArray).size = args'.toArray := by apply Array.ext'; simp
        simp only [invoke, hget, hext, callMethod, Sem.run_bind, run_program, Result.andThen_ok, hmr]
        exact callFunc_enter c2 c3 c4 _ _
      · have e0 : (q' :: args').toArray = #[q'] ++ args'.toArray := by apply Array.ext'; simp
        rw [← e0]; exact c1
    cases how with
    | none => exact go v v' hv' h' hmeth
    | some p =>
      simp only at h' hmeth
      rw [optRes_eq] at h'
      obtain ⟨q, hq, h'⟩ := h'
      cases hp : p.1 with
      | false =>
        rw [hp] at hq hmeth
        simp only [cond_false, Bool.false_eq_true, if_false] at hq hmeth
        unfold loadV at hq
        rw [ptrV_eq] at hq
        obtain ⟨b, off, rfl, hq⟩ := hq
        rw [cellsV_eq] at hq
        obtain ⟨c, h1, hq⟩ := hq
        rw [optV_eq] at hq
        obtain ⟨z, h2, h3⟩ := hq
        cases h3
        obtain ⟨l, _, hl, rfl⟩ := hv'.ptr_inv
        obtain ⟨z', k1, k2⟩ := hR.cell hl h1 h2
        exact go z z' k2 h' (hmeth _ z' rfl (by simp [k1]))
      | true =>
        rw [hp] at hq hmeth
        simp only [cond_true, if_true] at hq hmeth
        unfold loadNV at hq
        rw [ptrV_eq] at hq
        obtain ⟨b, off, rfl, hq⟩ := hq
        rw [cellsV_eq] at hq
        obtain ⟨c, h1, hq⟩ := hq
        rw [optV_eq] at hq
        obtain ⟨z, h2, h3⟩ := hq
        cases h3
        rw [Option.map_eq_some_iff] at h2
        obtain ⟨sb, h2, rfl⟩ := h2
        obtain ⟨l, _, hl, rfl⟩ := hv'.ptr_inv
        obtain ⟨r', k1, k2, _, k4⟩ := hR.shown hl h1 h2
        have hrun := run_loadCells_list (P := P) w ⟨l.block, l.base + off, none⟩ r' (fun j x hj => by rw [add_none]; exact k4 j x hj)
        rw [k1] at hrun
        exact go _ _ (VR.aggOf k2) h' (hmeth _ _ rfl (by simp only [Sem.run_bind, hrun, Result.andThen_ok, Sem.run_pure]))

end
end Go.AI

/-! The abstract interpreter: functions that are called as deferred ones. -/
namespace Go.AI
open Go.RowKit

/-- The mode of the frame below, within a deferred function: the panic that is on its way, whether it has been taken. -/
inductive TakeR (μ : Mu) : Option Value → Bool → FrameMode → Prop
  | ret : TakeR μ none false .returning
  | panic {v v' : Value} (t : Bool) (h : VR μ v v') : TakeR μ (some v) t (.panicking [{ v := v', recovered := t }])
theorem TakeR.mono {μ μ' : Mu} (hx : Ext μ μ') {p : Option Value} {t : Bool} {u : FrameMode} (h : TakeR μ p t u) : TakeR μ' p t u := by
  cases h with
  | ret => exact .ret
  | panic t h => exact .panic t (h.mono hx)
theorem TakeR.settle {μ : Mu} {p : Option Value} {t : Bool} {u : FrameMode} (h : TakeR μ p t u) : ModeR μ (if t then none else p) (settle u) := by
  cases h with
  | ret => exact .ret
  | panic t h =>
    cases t
    · exact .panic h
    · exact .ret
theorem TakeR.of_mode {μ : Mu} {p : Option Value} {u : FrameMode} (h : ModeR μ p u) : TakeR μ p false u := by
  cases h with
  | ret => exact .ret
  | panic h => exact .panic false h

section
variable {P : Program} {ty : Types} {E : Env} {B0 N : Nat} {LR : LoopOk}

theorem exec_recover {o : Oper} {c : Call} (ho : o.op = .call c) (hb : c.callee = .builtin .recover) (ρ : Operand → Value) (w : World) : (execOp ρ o).run P w = .ok .recover w := by
  rw [exec_builtin ho hb]; rfl

/-- The first region of a deferred function. -/
theorem deferOps_sound (T : TyOk P ty) {ops : Array Oper} {Q : Exit → Act → List Frame → World → Prop} {c0 : Frame} {cs : List Frame} : ∀ (is : List Nat) (l : List AO), compAll ty N ops is = some l → ∀ {p : Option Value} {taken : Bool} {fr : Fr} {s : St} {q : Bool × Fr × St},
    deferOps p l taken fr s = some q → ∀ {μ : Mu} {a : Act} {w : World} {u : FrameMode}, Rel LR B0 μ s w → FrR μ N fr a → TakeR μ p taken u → ∀ {μ0 : Mu} {s0 : St} {w0 : World}, Kept B0 μ0 s0 w0 μ s w →
    (∀ μ' a' w' u', Rel LR B0 μ' q.2.2 w' → FrR μ' N q.2.1 a' → TakeR μ' p q.1 u' → Kept B0 μ0 s0 w0 μ' q.2.2 w' → Q .normal a' ({ c0 with mode := u' } :: cs) w') →
    wpOpsSIn Fence.wide 0 P ops Q is a ({ c0 with mode := u } :: cs) w := by
  intro is
  induction is with
  | nil =>
    intro l hl p taken fr s q h μ a w u hR hfr hu μ0 s0 w0 hk hK
    cases hl; cases h
    exact hK μ a w u hR hfr hu hk
  | cons i is ih =>
    intro l hl p taken fr s q h μ a w u hR hfr hu μ0 s0 w0 hk hK
    unfold compAll at hl
    simp only [Option.bind_eq_bind, Option.bind_eq_some_iff, Option.some.injEq] at hl
    obtain ⟨ao, h1, os, h2, rfl⟩ := hl
    obtain ⟨o, g1, g2, g3, g4, g5, _, _⟩ := compOper_ok h1
    simp only [deferOps] at h
    cases hgd : ao.guard with
    | some gg => rw [hgd] at h; cases h
    | none =>
      rw [hgd] at h g2
      simp only at h
      have hw := wanted_ok g2 hfr.tr (b := true) rfl
      have hop := compOp_ok T g3
      simp only [wpOpsSIn, g1, hw, if_true]
      refine ⟨fun _ _ => trivial, ?_⟩
      cases hao : ao.op with
      | op k f =>
        rw [hao] at h hop
        simp only at h
        cases hf : f fr.tm s with
        | none => rw [hf] at h; cases h
        | some r =>
          rw [hf] at h
          simp only at h
          obtain ⟨v, s'⟩ := r
          have hard : HardS P o f := by
            cases k with
            | quiet => exact hop.elim ValS.hard NewS.hard
            | reads => exact hop.hard
            | hard => exact hop
          obtain ⟨nx, μ', w', e1, e2, e3, e4⟩ := hard fr.tm s v s' hf LR B0 μ a w hR hfr.tr
          rw [e1]
          rw [g5] at h
          rcases e2 with ⟨v', rfl, hv⟩ | ⟨rfl, rfl⟩
          · exact ih os h2 h e3 ((hfr.mono e4.ext).put g4 hv) (hu.mono e4.ext) (hk.trans e4) hK
          · exact ih os h2 h e3 ((hfr.mono e4.ext).skip g4) (hu.mono e4.ext) (hk.trans e4) hK
      | recover =>
        rw [hao] at h hop
        obtain ⟨c, ho, hb, _⟩ := hop
        rw [exec_recover ho hb]
        simp only at h ⊢
        rw [g5] at h
        cases hu with
        | ret =>
          simp only at h
          simp only [recoverD]
          exact ih os h2 h hR (hfr.put g4 .nilIface) .ret hk hK
        | panic t hv =>
          simp only at h
          cases taken with
          | true =>
            rw [cond_true] at h
            simp only [recoverD]
            exact ih os h2 h hR (hfr.put g4 .nilIface) (.panic true hv) hk hK
          | false =>
            rw [cond_false] at h
            simp only [recoverD]
            exact ih os h2 h hR (hfr.put g4 hv) (.panic true hv) hk hK
      | call f xs => rw [hao] at h; cases h
      | callF f xs => rw [hao] at h; cases h
      | invoke n x xs => rw [hao] at h; cases h
      | panic x => rw [hao] at h; cases h
      | defer f xs => rw [hao] at h; cases h

/-- Functions that are called as deferred ones. -/
theorem defer_ok (T : TyOk P ty) (hE : EnvOk P ty E B0) {rec : Rec} (hrec : CodeOk P ty E B0 rec) : DeferS P ty E B0 rec := by
  intro g args p s q h μ w args' u hR hG hv hu
  unfold deferred at h
  cases hF : E.fn g with
  | none => rw [hF] at h; cases h
  | some F =>
    rw [hF] at h
    simp only at h
    obtain ⟨Fm, b, h1, h2, h3, h4, h5, h6⟩ := hE.fn g F hF
    refine ⟨⟨Fm, b, h1, h2, h3⟩, ?_⟩
    cases hres : F.results with
    | cons _ _ => rw [hres] at h; cases h
    | nil =>
      rw [hres] at h h5
      simp only at h
      cases hb : F.body <;> rw [hb] at h <;> simp only at h <;> try (cases h; done)
      rename_i ba bc
      cases ba <;> simp only at h <;> try (cases h; done)
      rename_i l
      obtain ⟨Fm', id, ops, b2, k1, k2⟩ := hE.dfr g F l bc hF hres hb
      rw [h1] at k1; cases k1
      rw [h2] at k2; cases k2
      rw [hb] at h4
      simp only [comp, Option.bind_eq_bind, Option.bind_eq_some_iff, Option.some.injEq] at h4
      obtain ⟨c1, hc1, c2, hc2, hcc⟩ := h4
      cases hcc
      simp only [Bool.false_eq_true, if_false, Option.map_eq_some_iff] at hc1
      obtain ⟨l', hl, hll⟩ := hc1
      cases hll
      cases hd : deferOps p l false (enter args) s with
      | none => rw [hd] at h; cases h
      | some dq =>
        rw [hd] at h
        simp only at h
        obtain ⟨tk, fr1, s1⟩ := dq
        unfold deferDone at h
        cases hr : rec none bc fr1 s1 with
        | none => rw [hr] at h; cases h
        | some r =>
          rw [hr] at h
          obtain ⟨re, rfr, rs⟩ := r
          have hq : q = (tk, rs) ∧ rfr.defers = [] ∧ (re = .normal ∨ re = .ret) := by
            cases re <;> simp only at h <;> try (cases h; done)
            all_goals
              cases hde : rfr.defers with
              | nil => rw [hde] at h; simp at h; exact ⟨h.symm, rfl, by simp⟩
              | cons _ _ => rw [hde] at h; simp at h
          obtain ⟨rfl, hde, hre⟩ := hq
          refine callsDIn_of_wpSIn h1 h2 trivial fun c0 cs hc0 => wpSIn_seq (wpSIn_region ?_)
          have e0 : c0 :: cs = { c0 with mode := u } :: cs := by subst hc0; rfl
          rw [e0]
          refine deferOps_sound T _ l hl hd hR (enter_fr hG hv Fm.ntmps) (.of_mode hu) (.refl _ _ _ _) ?_
          intro μ' a' w' u' m1 m2 m3 m4
          refine wpSIn_of_wpIn rfl (wpIn_mono (hrec none bc fr1 s1 _ hr Fm.ntmps g b2 hc2 (RangesOk.right (f := .seq) rfl h6) μ' Fence.wide a' w' m1 m2 μ' s1 w' rfl (.refl _ _ _ _)) ?_)
          rintro e a2 w2 ⟨μ2, x1, x2, x3, x4⟩
          have had : a2.defers = [] := by
            have := x3.defs.length
            simp only at this
            rw [hde] at this
            exact List.eq_nil_of_length_eq_zero this.symm
          have hres2 : (results Fm a2.tmps).run P w2 = .ok (.tuple #[]) w2 := by
            obtain ⟨v', y1, y2⟩ := results_run T x1 x3 h5 (vs := []) rfl
            rw [y1]
            obtain ⟨c, rfl, hcs, _⟩ := y2.tuple_inv
            have : c = #[] := by apply Array.ext'; exact List.eq_nil_of_length_eq_zero (by simpa using hcs.symm)
            rw [this]
          have hmode : ∃ v μ'', Ending.returned (.tuple #[]) = .returned v ∧ Rel (LoopLR ty E) B0 μ'' rs w2 ∧ Kept B0 μ s w μ'' rs w2 ∧ ModeR μ'' (if tk then none else p) (settle u') := by
            exact ⟨_, μ2, rfl, x1, m4.trans x2, (m3.mono x2.ext).settle⟩
          rcases hre with rfl | rfl
          · cases x4
            exact ⟨had, u', by simp, _, hres2, hmode⟩
          · cases x4
            exact ⟨had, u', by simp, _, hres2, hmode⟩

end
end Go.AI

/-! The abstract interpreter: what an operation does depends on its operands alone. -/
namespace Go.AI
open Go.RowKit

/-- Two stores of temporaries agree on these operands. -/
def Agree (xs : List Operand) (tm tm' : Trie Value) : Prop := ∀ t, Operand.tmp t ∈ xs → tm.get t = tm'.get t

theorem Agree.sub {xs ys : List Operand} {tm tm' : Trie Value} (h : Agree xs tm tm') (hs : ∀ x ∈ ys, x ∈ xs) : Agree ys tm tm' := fun t ht => h t (hs _ ht)

theorem ev_congr {x : Operand} {ax : AX} (hx : compX x = some ax) {tm tm' : Trie Value} (h : ∀ t, x = .tmp t → tm.get t = tm'.get t) : ev tm ax = ev tm' ax := by
  cases x with
  | tmp t => cases hx; exact h t rfl
  | const c =>
    simp only [compX] at hx
    split at hx
    · cases hx; rfl
    · cases hx
  | global g =>
    simp only [compX] at hx
    split at hx
    · cases hx; rfl
    · cases hx
  | func f => cases hx; rfl

theorem ev_agree {x : Operand} {ax : AX} (hx : compX x = some ax) {xs : List Operand} {tm tm' : Trie Value} (h : Agree xs tm tm') (hm : x ∈ xs) : ev tm ax = ev tm' ax := ev_congr hx fun t ht => h t (ht ▸ hm)

theorem evs_agree {xs : List Operand} {axs : List AX} (hx : compXs xs = some axs) {tm tm' : Trie Value} (h : Agree xs tm tm') : evs tm axs = evs tm' axs := by
  unfold compXs at hx
  induction xs generalizing axs with
  | nil => simp at hx; subst hx; rfl
  | cons x xs ih =>
    simp only [List.mapM_cons, Option.bind_eq_bind, Option.bind_eq_some_iff, Option.pure_def, Option.some.injEq] at hx
    obtain ⟨ax, h1, axs', h2, rfl⟩ := hx
    rw [evs_cons, evs_cons, ev_agree h1 h (by simp), ih h2 (h.sub fun y hy => by simp [hy])]

theorem evO_agree {x : Option Operand} {ax : Option AX} (hx : compXO x = some ax) {tm tm' : Trie Value} (h : Agree x.toList tm tm') (k : Option Value → VS) : evO tm ax k = evO tm' ax k := by
  cases x with
  | none => simp [compXO] at hx; subst hx; rfl
  | some x =>
    simp only [compXO, Option.map_eq_some_iff] at hx
    obtain ⟨y, h1, rfl⟩ := hx
    show ev1 tm y _ = ev1 tm' y _
    unfold ev1
    rw [ev_agree h1 h (by simp)]

section
variable {ty : Types} {tm tm' : Trie Value} {s : St}

theorem loc1 {x : Operand} {ax : AX} (hx : compX x = some ax) {xs : List Operand} (h : Agree xs tm tm') (hm : x ∈ xs) (k : Value → VS) : ev1 tm ax k = ev1 tm' ax k := by
  unfold ev1; rw [ev_agree hx h hm]
theorem loc2 {x y : Operand} {ax ay : AX} (hx : compX x = some ax) (hy : compX y = some ay) {xs : List Operand} (h : Agree xs tm tm') (hm : x ∈ xs) (hn : y ∈ xs) (k : Value → Value → VS) :
    (ev1 tm ax fun u => ev1 tm ay fun v => k u v) = ev1 tm' ax fun u => ev1 tm' ay fun v => k u v := by
  unfold ev1; rw [ev_agree hx h hm, ev_agree hy h hn]
theorem loc3 {x y z : Operand} {ax ay az : AX} (hx : compX x = some ax) (hy : compX y = some ay) (hz : compX z = some az) {xs : List Operand} (h : Agree xs tm tm') (hm : x ∈ xs) (hn : y ∈ xs) (ho : z ∈ xs) (k : Value → Value → Value → VS) :
    (ev1 tm ax fun u => ev1 tm ay fun v => ev1 tm az fun r => k u v r) = ev1 tm' ax fun u => ev1 tm' ay fun v => ev1 tm' az fun r => k u v r := by
  unfold ev1; rw [ev_agree hx h hm, ev_agree hy h hn, ev_agree hz h ho]
theorem locL {xs : List Operand} {axs : List AX} (hx : compXs xs = some axs) (h : Agree xs tm tm') (k : List Value → VS) : evL tm axs k = evL tm' axs k := by
  unfold evL; rw [evs_agree hx h]

/-- What a compiled operation does depends on its operands alone. -/
theorem compOp_loc {op : Op} {k : Kind} {f : OpF} (h : compOp ty op = some (.op k f)) (ha : Agree op.operands.toList tm tm') : f tm s = f tm' s := by
  cases op <;> simp only [compOp, Option.bind_eq_bind, Option.bind_eq_some_iff, Option.map_eq_some_iff, Option.some.injEq] at h <;> try (cases h; done)
  case move x => obtain ⟨ax, hx, h⟩ := h; cases h; exact loc1 hx ha (by simp [Op.operands]) _
  case assign x => obtain ⟨ax, hx, h⟩ := h; cases h; exact loc1 hx ha (by simp [Op.operands]) _
  case pick c a b => obtain ⟨ac, hc, aa, ha', ab, hb, h⟩ := h; cases h; exact loc3 hc ha' hb ha (by simp [Op.operands]) (by simp [Op.operands]) (by simp [Op.operands]) _
  case alloc t =>
    obtain ⟨i, hi, h⟩ := h
    split at h
    · cases h; rfl
    · cases h
  case box t x => obtain ⟨ax, hx, h⟩ := h; cases h; exact loc1 hx ha (by simp [Op.operands]) _
  case build t ps =>
    obtain ⟨i, hi, xs, hx, h⟩ := h
    have ha' : Agree (ps.toList.map (·.2)) tm tm' := by simpa [Op.operands] using ha
    split at h
    · cases hd : i.desc <;> rw [hd] at h <;> simp only [Option.map_eq_some_iff, Option.bind_eq_some_iff, Option.some.injEq] at h <;> try (cases h; done)
      · obtain ⟨ei, he, h⟩ := h; cases h; exact locL hx ha' _
      · obtain ⟨qs, hq, h⟩ := h; cases h; exact locL hx ha' _
    · cases h
  case buildSlice t n ps =>
    obtain ⟨ei, hei, xs, hx, h⟩ := h
    have ha' : Agree (ps.toList.map (·.2)) tm tm' := by simpa [Op.operands] using ha
    split at h
    · cases h; exact locL hx ha' _
    · cases h
  case load t x =>
    obtain ⟨i, hi, ax, hx, h⟩ := h
    cases hg : i.agg <;> rw [hg] at h <;> cases h <;> exact loc1 hx ha (by simp [Op.operands]) _
  case store t x y => obtain ⟨i, hi, ax, hx, ay, hy, h⟩ := h; cases h; exact loc2 hx hy ha (by simp [Op.operands]) (by simp [Op.operands]) _
  case nilCheck x => obtain ⟨ax, hx, h⟩ := h; cases h; exact loc1 hx ha (by simp [Op.operands]) _
  case binOp op t x y u =>
    unfold compBin at h
    simp only [Option.bind_eq_bind, Option.bind_eq_some_iff] at h
    obtain ⟨i, hi, ax, hx, ay, hy, h⟩ := h
    have hm : x ∈ (Op.binOp op t x y u).operands.toList := by simp [Op.operands]
    have hn : y ∈ (Op.binOp op t x y u).operands.toList := by simp [Op.operands]
    cases hd : i.desc <;> rw [hd] at h <;> simp only [Option.map_eq_some_iff] at h <;> try (cases h; done)
    all_goals first
      | (split at h
         · first
             | (cases h; exact loc2 hx hy ha hm hn _)
             | (simp only [Option.map_eq_some_iff] at h; obtain ⟨_, _, h⟩ := h; cases h; exact loc2 hx hy ha hm hn _)
         · first
             | (cases h; done)
             | (cases h; exact loc2 hx hy ha hm hn _))
      | (obtain ⟨_, _, h⟩ := h; cases h; exact loc2 hx hy ha hm hn _)
  case unOp op t x =>
    cases op <;> simp only [Option.map_eq_some_iff] at h <;> first
      | (obtain ⟨ax, hx, h⟩ := h; cases h; exact loc1 hx ha (by simp [Op.operands]) _)
      | (cases h; done)
  case convert src dst x =>
    obtain ⟨si, hsi, i, hi, h⟩ := h
    cases hd : i.desc <;> rw [hd] at h <;> simp only [Option.map_eq_some_iff] at h <;> try (cases h; done)
    obtain ⟨ax, hx, h⟩ := h; cases h
    exact loc1 hx ha (by simp [Op.operands]) _
  case makeInterface t x =>
    obtain ⟨i, hi, h⟩ := h
    cases hd : i.desc <;> rw [hd] at h <;> simp only [Option.map_eq_some_iff] at h <;> first
      | (cases h; done)
      | (obtain ⟨ax, hx, h⟩ := h; cases h; exact loc1 hx ha (by simp [Op.operands]) _)
  case makeFunc fn first captured =>
    cases fn <;> simp only [Option.bind_eq_some_iff, Option.some.injEq] at h <;> first
      | (cases h; done)
      | (obtain ⟨a1, h1, a2, h2, h⟩ := h; cases h
         have ha1 : Agree first.toList tm tm' := ha.sub fun x hx => by simp only [Op.operands, Array.toList_append, List.mem_append]; exact .inl hx
         have ha2 : Agree captured.toList tm tm' := ha.sub fun x hx => by simp only [Op.operands, Array.toList_append, List.mem_append]; exact .inr hx
         show evL tm a1 (fun a => evL tm a2 fun b => _) = evL tm' a1 (fun a => evL tm' a2 fun b => _)
         unfold evL
         rw [evs_agree h1 ha1, evs_agree h2 ha2])
  case makeMap t r =>
    cases r with
    | none => cases h; rfl
    | some r => cases h
  case makeSlice t l c =>
    obtain ⟨ei, hei, h⟩ := h
    split at h
    · simp only [Option.bind_eq_some_iff, Option.some.injEq] at h
      obtain ⟨ax, hx, ay, hy, h⟩ := h
      cases h
      exact loc2 hx hy ha (by simp [Op.operands]) (by simp [Op.operands]) _
    · cases h
  case slice t x lo hi mx =>
    obtain ⟨i, hti, ax, hx, h⟩ := h
    have hm : x ∈ (Op.slice t x lo hi mx).operands.toList := by simp [Op.operands]
    have h1' : Agree lo.toList tm tm' := ha.sub fun y hy => by cases lo <;> simp [Op.operands] at hy ⊢; subst hy; simp
    have h2' : Agree hi.toList tm tm' := ha.sub fun y hy => by cases hi <;> simp [Op.operands] at hy ⊢; subst hy; simp
    have h3' : Agree mx.toList tm tm' := ha.sub fun y hy => by cases mx <;> simp [Op.operands] at hy ⊢; subst hy; simp
    cases hd : i.desc <;> rw [hd] at h <;> simp only [Option.bind_eq_some_iff, Option.some.injEq] at h <;> try (cases h; done)
    · obtain ⟨ei, he, alo, h1, ahi, h2, amx, h3, h⟩ := h
      cases h
      show ev1 tm ax (fun x => evO tm alo fun lo => evO tm ahi fun hi => evO tm amx fun mx => _) = ev1 tm' ax (fun x => evO tm' alo fun lo => evO tm' ahi fun hi => evO tm' amx fun mx => _)
      rw [loc1 hx ha hm]
      simp only [evO_agree h1 h1', evO_agree h2 h2', evO_agree h3 h3']
    · obtain ⟨ei, he, h⟩ := h
      split at h
      · cases h; exact loc1 hx ha hm _
      · cases h
  case fieldAddr t x f =>
    obtain ⟨i, hi, ax, hx, h⟩ := h
    cases hd : i.desc <;> rw [hd] at h <;> simp only [Option.bind_eq_some_iff] at h <;> try (cases h; done)
    obtain ⟨p, hp, h⟩ := h
    split at h
    · cases h; exact loc1 hx ha (by simp [Op.operands]) _
    · cases h
  case field t x f =>
    obtain ⟨i, hi, ax, hx, h⟩ := h
    cases hd : i.desc <;> rw [hd] at h <;> simp only [Option.bind_eq_some_iff, Option.some.injEq] at h <;> try (cases h; done)
    obtain ⟨fd, hf, fi, hfi, h⟩ := h
    cases h
    exact loc1 hx ha (by simp [Op.operands]) _
  case indexAddr t x y =>
    obtain ⟨i, hi, ax, hx, ay, hy, h⟩ := h
    cases hd : i.desc <;> rw [hd] at h <;> simp only [Option.map_eq_some_iff] at h <;> try (cases h; done)
    all_goals obtain ⟨ei, he, h⟩ := h; cases h; exact loc2 hx hy ha (by simp [Op.operands]) (by simp [Op.operands]) _
  case index t x y =>
    obtain ⟨i, hi, ax, hx, ay, hy, h⟩ := h
    cases hd : i.desc <;> rw [hd] at h <;> simp only [Option.map_eq_some_iff] at h <;> try (cases h; done)
    · cases h; exact loc2 hx hy ha (by simp [Op.operands]) (by simp [Op.operands]) _
    · obtain ⟨ei, he, h⟩ := h; cases h; exact loc2 hx hy ha (by simp [Op.operands]) (by simp [Op.operands]) _
  case lookup t m k ok =>
    obtain ⟨r, hr, h⟩ := h
    split at h
    · simp only [Option.bind_eq_some_iff, Option.some.injEq] at h
      obtain ⟨ax, hx, ay, hy, h⟩ := h
      cases h
      exact loc2 hx hy ha (by simp [Op.operands]) (by simp [Op.operands]) _
    · cases h
  case mapUpdate t m k v =>
    obtain ⟨r, hr, ax, hx, ay, hy, az, hz, h⟩ := h
    cases h
    exact loc3 hx hy hz ha (by simp [Op.operands]) (by simp [Op.operands]) (by simp [Op.operands]) _
  case insert t m k v =>
    obtain ⟨r, hr, ax, hx, ay, hy, az, hz, h⟩ := h
    cases h
    exact loc3 hx hy hz ha (by simp [Op.operands]) (by simp [Op.operands]) (by simp [Op.operands]) _
  case range t x =>
    obtain ⟨i, hi, h⟩ := h
    cases hd : i.desc <;> rw [hd] at h <;> simp only [Option.map_eq_some_iff] at h <;> try (cases h; done)
    obtain ⟨ax, hx, h⟩ := h
    cases h
    exact loc1 hx ha (by simp [Op.operands]) _
  case next it isString =>
    cases isString with
    | true => cases h
    | false =>
      simp only [Bool.false_eq_true, if_false, Option.map_eq_some_iff] at h
      obtain ⟨ax, hx, h⟩ := h
      cases h
      exact loc1 hx ha (by simp [Op.operands]) _
  case entry it => obtain ⟨ax, hx, h⟩ := h; cases h; exact loc1 hx ha (by simp [Op.operands]) _
  case extract x i => obtain ⟨ax, hx, h⟩ := h; cases h; exact loc1 hx ha (by simp [Op.operands]) _
  case typeAssert x u t ok =>
    obtain ⟨i, hi, h⟩ := h
    cases hd : i.desc <;> rw [hd] at h <;> simp only at h <;> first
      | (cases h; done)
      | (split at h
         · simp only [Option.map_eq_some_iff] at h
           obtain ⟨ax, hx, h⟩ := h
           cases h
           exact loc1 hx ha (by simp [Op.operands]) _
         · cases h)
  case call c =>
    unfold compCall at h
    simp only [Option.bind_eq_bind, Option.bind_eq_some_iff] at h
    obtain ⟨xs, hx, h⟩ := h
    have ha' : Agree c.args.toList tm tm' := ha.sub fun x hx => by simp only [Op.operands, Call.operands, Array.toList_append, List.mem_append]; exact .inr hx
    have hev := evs_agree hx ha'
    have cons1 : ∀ {x : AX} {l : List AX}, xs = x :: l → ev tm x = ev tm' x := by
      intro x l hxl
      subst hxl
      cases hl : c.args.toList with
      | nil => rw [hl] at hx; simp [compXs] at hx
      | cons o os =>
        rw [hl] at hx ha'
        unfold compXs at hx
        simp only [List.mapM_cons, Option.bind_eq_bind, Option.bind_eq_some_iff, Option.pure_def, Option.some.injEq] at hx
        obtain ⟨ax, h1, axs', h2, h3⟩ := hx
        cases h3
        exact ev_agree h1 ha' (by simp)
    have cons2 : ∀ {x : AX} {l : List AX}, xs = x :: l → evs tm l = evs tm' l := by
      intro x l hxl
      subst hxl
      cases hl : c.args.toList with
      | nil => rw [hl] at hx; simp [compXs] at hx
      | cons o os =>
        rw [hl] at hx ha'
        unfold compXs at hx
        simp only [List.mapM_cons, Option.bind_eq_bind, Option.bind_eq_some_iff, Option.pure_def, Option.some.injEq] at hx
        obtain ⟨ax, h1, axs', h2, h3⟩ := hx
        cases h3
        exact evs_agree (xs := os) h2 (ha'.sub fun y hy => by simp [hy])
    have cons3 : ∀ {x y : AX} {l : List AX}, xs = x :: y :: l → ev tm y = ev tm' y := by
      intro x y l hxl
      subst hxl
      cases hl : c.args.toList with
      | nil => rw [hl] at hx; simp [compXs] at hx
      | cons o os =>
        rw [hl] at hx ha'
        unfold compXs at hx
        simp only [List.mapM_cons, Option.bind_eq_bind, Option.bind_eq_some_iff, Option.pure_def, Option.some.injEq] at hx
        obtain ⟨ax, h1, axs', h2, h3⟩ := hx
        cases h3
        cases os with
        | nil => simp at h2
        | cons o2 os2 =>
          simp only [List.mapM_cons, Option.bind_eq_bind, Option.bind_eq_some_iff, Option.pure_def, Option.some.injEq] at h2
          obtain ⟨ax2, h4, axs2, h5, h6⟩ := h2
          cases h6
          exact ev_agree h4 ha' (by simp)
    split at h
    · unfold compBuiltin at h
      split at h
      · simp only [Option.bind_eq_bind, Option.bind_eq_some_iff] at h
        obtain ⟨i, hi, h⟩ := h
        cases hd : i.desc <;> rw [hd] at h <;> simp only at h <;> try (cases h; done)
        all_goals cases h; show ev1 _ _ _ = ev1 _ _ _; unfold ev1; rw [cons1 rfl]
      · simp only [Option.bind_eq_bind, Option.bind_eq_some_iff] at h
        obtain ⟨ei, hei, ui, hui, h⟩ := h
        cases hd : ui.desc <;> rw [hd] at h <;> simp only at h <;> try (cases h; done)
        split at h
        · cases h; show ev1 _ _ (fun _ => ev1 _ _ _) = ev1 _ _ (fun _ => ev1 _ _ _); unfold ev1; rw [cons1 rfl, cons3 rfl]
        · cases h
      · cases h; show ev1 _ _ (fun _ => evL _ _ _) = ev1 _ _ (fun _ => evL _ _ _); unfold ev1 evL; rw [cons1 rfl, cons2 rfl]
      · cases h; show ev1 _ _ (fun _ => evL _ _ _) = ev1 _ _ (fun _ => evL _ _ _); unfold ev1 evL; rw [cons1 rfl, cons2 rfl]
      · simp only [Option.bind_eq_bind, Option.bind_eq_some_iff] at h
        obtain ⟨r, hr, h⟩ := h
        cases h; show ev1 _ _ (fun _ => ev1 _ _ _) = ev1 _ _ (fun _ => ev1 _ _ _); unfold ev1; rw [cons1 rfl, cons3 rfl]
      · cases h
      · cases h
    · cases h
    · simp only [Option.map_eq_some_iff] at h; obtain ⟨_, _, h⟩ := h; cases h
    · simp only [Option.map_eq_some_iff] at h; obtain ⟨_, _, h⟩ := h; cases h
  case defer c =>
    obtain ⟨xs, hx, h⟩ := h
    split at h
    · simp only [Option.map_eq_some_iff] at h; obtain ⟨_, _, h⟩ := h; cases h
    · cases h
  case panic x => obtain ⟨_, _, h⟩ := h; cases h

end
end Go.AI

/-! The abstract interpreter: regions that draw their order (1): one operation at another store of temporaries; what must come before what. -/
namespace Go.AI
open Go.RowKit

section
variable {P : Program} {ty : Types} {C : Calls'} {tm tm' : Trie Value} {s : St}

/-- One operation, at a store of temporaries that agrees on its operands. -/
theorem operV_loc {o : Oper} {op : AOp} (hc : compOp ty o.op = some op) (hok : OpOk P o op) (ha : Agree o.op.operands.toList tm tm') {rd : Option Nat} {d : List Deferred} {dst : Option Nat} {q : Ran} (h : operV C rd ⟨tm, d⟩ s dst op = some q) :
    (∃ v d', q = (.normal, put ⟨tm, d'⟩ dst v, q.2.2) ∧ operV C rd ⟨tm', d⟩ s dst op = some (.normal, put ⟨tm', d'⟩ dst v, q.2.2)) ∨
    ∃ v, q = (.panic v, ⟨tm, d⟩, q.2.2) ∧ operV C rd ⟨tm', d⟩ s dst op = some (.panic v, ⟨tm', d⟩, q.2.2) := by
  have hcall : ∀ {r : OptRes}, called ⟨tm, d⟩ dst r = some q → (∃ v d', q = (.normal, put ⟨tm, d'⟩ dst v, q.2.2) ∧ called ⟨tm', d⟩ dst r = some (.normal, put ⟨tm', d'⟩ dst v, q.2.2)) ∨
      ∃ v, q = (.panic v, ⟨tm, d⟩, q.2.2) ∧ called ⟨tm', d⟩ dst r = some (.panic v, ⟨tm', d⟩, q.2.2) := by
    intro r hr
    obtain ⟨c, s', rfl, h2⟩ := called_eq hr
    rcases h2 with ⟨v, rfl, rfl⟩ | ⟨v, rfl, rfl⟩
    · exact .inl ⟨v, d, rfl, rfl⟩
    · exact .inr ⟨v, rfl, rfl⟩
  have argsOf : ∀ {c : Call} {xs : List AX}, o.op = .call c ∨ o.op = .defer c → compXs c.args.toList = some xs → evs tm xs = evs tm' xs := by
    intro c xs ho hx
    refine evs_agree hx (ha.sub fun x hx => ?_)
    rcases ho with ho | ho <;> rw [ho] <;> simp only [Op.operands, Call.operands, Array.toList_append, List.mem_append] <;> exact .inr hx
  have calleeOf : ∀ {c : Call} {g : Operand} {f : AX}, o.op = .call c ∨ o.op = .defer c → c.callee = .value g → compX g = some f → ev tm f = ev tm' f := by
    intro c g f ho hc hf
    refine ev_agree hf ha ?_
    rcases ho with ho | ho <;> rw [ho] <;> simp [Op.operands, Call.operands, hc]
  cases op with
  | op k f =>
    have h' : valued ⟨tm, d⟩ dst (f tm s) = some q := h
    rw [valued_eq] at h'
    obtain ⟨v, s', h1, rfl⟩ := h'
    left
    refine ⟨v, d, rfl, ?_⟩
    show valued ⟨tm', d⟩ dst (f tm' s) = _
    rw [← compOp_loc hc ha, h1]; rfl
  | call f xs =>
    obtain ⟨c, g, ho, hcl, hf, hx⟩ := hok
    have e1 := calleeOf (.inl ho) hcl hf
    have e2 := argsOf (.inl ho) hx
    have h' : (optR (ev tm f) fun f => optR (evs tm xs) fun vs => called ⟨tm, d⟩ dst (C.val f vs s)) = some q := h
    rw [optR_eq] at h'
    obtain ⟨fv, h1, h'⟩ := h'
    rw [optR_eq] at h'
    obtain ⟨vs, h2, h'⟩ := h'
    have e : operV C rd ⟨tm', d⟩ s dst (.call f xs) = called ⟨tm', d⟩ dst (C.val fv vs s) := by
      show (optR (ev tm' f) fun f => optR (evs tm' xs) fun vs => called ⟨tm', d⟩ dst (C.val f vs s)) = _
      rw [← e1, ← e2, h1, h2]; rfl
    rw [e]; exact hcall h'
  | callF f xs =>
    obtain ⟨c, ho, hcl, hx⟩ := hok
    have e2 := argsOf (.inl ho) hx
    have h' : (optR (evs tm xs) fun vs => called ⟨tm, d⟩ dst (C.fn f vs s)) = some q := h
    rw [optR_eq] at h'
    obtain ⟨vs, h2, h'⟩ := h'
    have e : operV C rd ⟨tm', d⟩ s dst (.callF f xs) = called ⟨tm', d⟩ dst (C.fn f vs s) := by
      show (optR (evs tm' xs) fun vs => called ⟨tm', d⟩ dst (C.fn f vs s)) = _
      rw [← e2, h2]; rfl
    rw [e]; exact hcall h'
  | invoke name x xs =>
    obtain ⟨c, g, ho, hcl, hf, hx⟩ := hok
    have e1 : ev tm x = ev tm' x := by
      refine ev_agree hf ha ?_
      rw [ho]; simp [Op.operands, Call.operands, hcl]
    have e2 := argsOf (.inl ho) hx
    have h' : (optR (ev tm x) fun x => optR (evs tm xs) fun vs => called ⟨tm, d⟩ dst (C.inv name x vs s)) = some q := h
    rw [optR_eq] at h'
    obtain ⟨fv, h1, h'⟩ := h'
    rw [optR_eq] at h'
    obtain ⟨vs, h2, h'⟩ := h'
    have e : operV C rd ⟨tm', d⟩ s dst (.invoke name x xs) = called ⟨tm', d⟩ dst (C.inv name fv vs s) := by
      show (optR (ev tm' x) fun x => optR (evs tm' xs) fun vs => called ⟨tm', d⟩ dst (C.inv name x vs s)) = _
      rw [← e1, ← e2, h1, h2]; rfl
    rw [e]; exact hcall h'
  | panic x =>
    obtain ⟨y, ho, hx⟩ := hok
    have e1 : ev tm x = ev tm' x := ev_agree hx ha (by rw [ho]; simp [Op.operands])
    have h' : (optR (ev tm x) fun x => panicV ⟨tm, d⟩ s x) = some q := h
    rw [optR_eq] at h'
    obtain ⟨v, h1, h'⟩ := h'
    unfold panicV at h'
    cases v <;> simp only at h' <;> try (cases h'; done)
    cases h'
    right
    refine ⟨_, rfl, ?_⟩
    show (optR (ev tm' x) fun x => panicV ⟨tm', d⟩ s x) = _
    rw [← e1, h1]; rfl
  | defer f xs =>
    obtain ⟨c, g, ho, hcl, hf, hx⟩ := hok
    have e1 := calleeOf (.inr ho) hcl hf
    have e2 := argsOf (.inr ho) hx
    have h' : ifB (isNone' rd) (optR (ev tm f) fun f => optR (evs tm xs) fun vs => deferV ⟨tm, d⟩ dst s f vs) none = some q := h
    rw [ifB_eq] at h'
    obtain ⟨hrd, h'⟩ := h'
    rw [optR_eq] at h'
    obtain ⟨fv, h1, h'⟩ := h'
    rw [optR_eq] at h'
    obtain ⟨vs, h2, h'⟩ := h'
    unfold deferV at h'
    cases fv <;> simp only at h' <;> try (cases h'; done)
    rename_i fn first cap
    cases fn <;> simp only at h' <;> try (cases h'; done)
    rename_i gf
    cases h'
    left
    refine ⟨Go.undef, _, rfl, ?_⟩
    show ifB (isNone' rd) (optR (ev tm' f) fun f => optR (evs tm' xs) fun vs => deferV ⟨tm', d⟩ dst s f vs) none = _
    rw [hrd, ifB_true, ← e1, ← e2, h1, h2]; rfl
  | recover => cases h

end

/-! ### What must come before what -/

/-- Down-closed under the edges. -/
def Closed (ops : Array Oper) (D : Nat → Prop) : Prop := ∀ j o, ops[j]? = some o → D j → ∀ e ∈ o.after, Region.binds .any e = true → D e.on

end Go.AI

/-! The abstract interpreter: regions that draw their order (2): what comes before what. -/
namespace Go.AI
open Go.RowKit

/-- What must come ahead of an operation, as 'before' gathers it. -/
def gather (acc : Array Nat) (o : Oper) : Nat := o.after.foldl (fun s e => if Region.binds .any e then s ||| 2 ^ e.on ||| acc.getD e.on 0 else s) 0

theorem before_eq (ops : Array Oper) : Region.before ops = ops.toList.foldl (fun acc o => acc.push (gather acc o)) #[] := by
  unfold Region.before
  rw [← Array.foldl_toList]
  rfl

theorem gather_bit {acc : Array Nat} {o : Oper} {i : Nat} (h : (gather acc o).testBit i = true) : ∃ e ∈ o.after, Region.binds .any e = true ∧ (i = e.on ∨ (acc.getD e.on 0).testBit i = true) := by
  have key : ∀ (l : List Edge) (s : Nat), (l.foldl (fun s e => if Region.binds .any e then s ||| 2 ^ e.on ||| acc.getD e.on 0 else s) s).testBit i = true →
      s.testBit i = true ∨ ∃ e ∈ l, Region.binds .any e = true ∧ (i = e.on ∨ (acc.getD e.on 0).testBit i = true) := by
    intro l
    induction l with
    | nil => intro s h; exact .inl h
    | cons e l ih =>
      intro s h
      simp only [List.foldl_cons] at h
      rcases ih _ h with h1 | ⟨e', h1, h2, h3⟩
      · by_cases hb : Region.binds .any e = true
        · rw [if_pos hb] at h1
          simp only [Nat.testBit_or, Bool.or_eq_true] at h1
          rcases h1 with (h1 | h1) | h1
          · exact .inl h1
          · refine .inr ⟨e, by simp, hb, .inl ?_⟩
            rw [Nat.testBit_two_pow] at h1
            simpa [eq_comm] using h1
          · exact .inr ⟨e, by simp, hb, .inr h1⟩
        · rw [if_neg hb] at h1; exact .inl h1
      · exact .inr ⟨e', by simp [h1], h2, h3⟩
  unfold gather at h
  rw [← Array.foldl_toList] at h
  rcases key _ _ h with h1 | ⟨e, h1, h2, h3⟩
  · simp at h1
  · exact ⟨e, by simpa using h1, h2, h3⟩

/-- A property of what is gathered, one operation after the other. -/
theorem before_all {ops : Array Oper} (Q : Nat → Nat → Prop) (hstep : ∀ (acc : Array Nat) (o : Oper), ops[acc.size]? = some o → (∀ j, j < acc.size → Q j (acc.getD j 0)) → Q acc.size (gather acc o)) :
    (Region.before ops).size = ops.size ∧ ∀ j, j < ops.size → Q j ((Region.before ops).getD j 0) := by
  rw [before_eq]
  have key : ∀ (l : List Oper) (acc : Array Nat), l = ops.toList.drop acc.size → acc.size ≤ ops.size → (∀ j, j < acc.size → Q j (acc.getD j 0)) →
      (l.foldl (fun acc o => acc.push (gather acc o)) acc).size = ops.size ∧ ∀ j, j < ops.size → Q j ((l.foldl (fun acc o => acc.push (gather acc o)) acc).getD j 0) := by
    intro l
    induction l with
    | nil =>
      intro acc hl hs hQ
      have : ops.size ≤ acc.size := by
        have := congrArg List.length hl
        simp at this; omega
      exact ⟨by simp only [List.foldl_nil]; omega, fun j hj => hQ j (by omega)⟩
    | cons o l ih =>
      intro acc hl hs hQ
      have ho : ops[acc.size]? = some o := by
        have := congrArg (fun x => x[0]?) hl
        simp at this
        exact this.symm
      have hlt : acc.size < ops.size := (Array.getElem?_eq_some_iff.1 ho).1
      simp only [List.foldl_cons]
      refine ih (acc.push (gather acc o)) ?_ (by simp; omega) ?_
      · simp only [Array.size_push]
        have := congrArg List.tail hl
        simpa using this
      · intro j hj
        simp only [Array.size_push] at hj
        by_cases hja : j = acc.size
        · subst hja
          have : (acc.push (gather acc o)).getD acc.size 0 = gather acc o := by simp
          rw [this]
          exact hstep acc o ho hQ
        · have hjl : j < acc.size := by omega
          have : (acc.push (gather acc o)).getD j 0 = acc.getD j 0 := by
            simp [Array.getElem?_push, hja]
          rw [this]; exact hQ j hjl
  exact key _ #[] (by simp) (by simp) (fun j hj => by simp at hj)

theorem edgesOk_eq {ops : Array Oper} (h : edgesOk ops = true) {j : Nat} {o : Oper} (ho : ops[j]? = some o) {e : Edge} (he : e ∈ o.after) (hb : Region.binds .any e = true) : e.on < j := by
  unfold edgesOk at h
  rw [List.all_eq_true] at h
  have := h (o, j) (by rw [List.mem_zipIdx_iff_getElem?]; simpa using ho)
  rw [List.all_eq_true] at this
  have := this e (by simpa using he)
  simp only [hb, Bool.not_true, Bool.false_or] at this
  rw [Nat.blt_eq] at this; exact this

/-- What is before an operation has a smaller number. -/
theorem before_lt {ops : Array Oper} (h : edgesOk ops = true) {j i : Nat} (hj : j < ops.size) (hb : ((Region.before ops).getD j 0).testBit i = true) : i < j := by
  refine (before_all (ops := ops) (fun j v => ∀ i, v.testBit i = true → i < j) ?_).2 j hj i hb
  intro acc o ho hQ i hi
  obtain ⟨e, h1, h2, h3⟩ := gather_bit hi
  have hlt := edgesOk_eq h ho h1 h2
  rcases h3 with rfl | h3
  · exact hlt
  · have := hQ e.on hlt i h3; omega

/-- A set that is closed under the edges holds what is before its members. -/
theorem before_closed {ops : Array Oper} {D : Nat → Prop} (hD : Closed ops D) {j i : Nat} (hj : j < ops.size) (hDj : D j) (hb : ((Region.before ops).getD j 0).testBit i = true) : D i := by
  refine (before_all (ops := ops) (fun j v => D j → ∀ i, v.testBit i = true → D i) ?_).2 j hj hDj i hb
  intro acc o ho hQ hDa i hi
  obtain ⟨e, h1, h2, h3⟩ := gather_bit hi
  have hDe := hD _ o ho hDa e h1 h2
  rcases h3 with rfl | h3
  · exact hDe
  · by_cases hlt : e.on < acc.size
    · exact hQ e.on hlt hDe i h3
    · have : acc.getD e.on 0 = 0 := by simp [Array.getElem?_eq_none (Nat.le_of_not_lt hlt)]
      rw [this] at h3; simp at h3

/-- What is before an operation that may come next is done. -/
theorem before_ready {ops : Array Oper} (hE : edgesOk ops = true) {D : Nat → Prop} (hD : Closed ops D) {j : Nat} {o : Oper} (ho : ops[j]? = some o) (hr : ∀ e ∈ o.after, Region.binds .any e = true → D e.on) {i : Nat} (hb : ((Region.before ops).getD j 0).testBit i = true) : D i := by
  have hj : j < ops.size := (Array.getElem?_eq_some_iff.1 ho).1
  have hD' : Closed ops (fun x => D x ∨ x = j) := by
    intro k o' hk hDk e he hbe
    rcases hDk with hDk | rfl
    · exact .inl (hD k o' hk hDk e he hbe)
    · rw [ho] at hk; cases hk; exact .inl (hr e he hbe)
  rcases before_closed hD' hj (.inr rfl) hb with h | h
  · exact h
  · have := before_lt hE hj hb; omega

end Go.AI

/-! The abstract interpreter: regions that draw their order (3): the temporaries. -/
namespace Go.AI
open Go.RowKit

/-- The temporary that an operation writes. -/
def dstOf (ops : Array Oper) (n : Nat) : Option Tmp := (ops[n]?).bind (·.dst)

/-- What stands in a temporary, once the operations of `S` have been carried out: what the last of them has put there. -/
noncomputable def gv (ops : Array Oper) (g0 : Nat → Option Value) (vals : Nat → Value) (S : Nat → Prop) : Nat → Nat → Option Value
  | 0, t => g0 t
  | n + 1, t => open Classical in if S n ∧ dstOf ops n = some t then some (vals n) else gv ops g0 vals S n t

section
variable {ops : Array Oper} {g0 : Nat → Option Value} {vals vals' : Nat → Value} {S S' : Nat → Prop}

theorem gv_congr {n t : Nat} (h : ∀ j, j < n → dstOf ops j = some t → (S j ↔ S' j) ∧ (S j → vals j = vals' j)) : gv ops g0 vals S n t = gv ops g0 vals' S' n t := by
  induction n with
  | zero => rfl
  | succ n ih =>
    simp only [gv]
    have ih' := ih fun j hj hd => h j (by omega) hd
    by_cases hd : dstOf ops n = some t
    · obtain ⟨h1, h2⟩ := h n (Nat.lt_succ_self n) hd
      by_cases hs : S n
      · rw [if_pos ⟨hs, hd⟩, if_pos ⟨h1.1 hs, hd⟩, h2 hs]
      · rw [if_neg (fun x => hs x.1), if_neg (fun x => hs (h1.2 x.1)), ih']
    · rw [if_neg (fun x => hd x.2), if_neg (fun x => hd x.2), ih']

/-- One operation more, behind all others that write the temporary. -/
theorem gv_add {i n t : Nat} (hi : i < n) (h : ∀ j, S j → i < j → dstOf ops j = some t → dstOf ops i ≠ some t) :
    gv ops g0 vals (fun x => S x ∨ x = i) n t = if dstOf ops i = some t then some (vals i) else gv ops g0 vals S n t := by
  by_cases hd : dstOf ops i = some t
  · rw [if_pos hd]
    induction n with
    | zero => omega
    | succ n ih =>
      simp only [gv]
      by_cases hin : i = n
      · subst hin; rw [if_pos ⟨.inr rfl, hd⟩]
      · rw [if_neg, ih (by omega)]
        rintro ⟨h1 | h1, h2⟩
        · exact h n h1 (by omega) h2 hd
        · exact hin h1.symm
  · rw [if_neg hd]
    refine gv_congr fun j _ hj => ⟨⟨fun x => x.elim id (fun y => absurd (y ▸ hj) hd), .inl⟩, fun _ => rfl⟩

theorem tmpsOk_eq {bf : Array Nat} (h : tmpsOk ops bf = true) {i j : Nat} {p q : Oper} (hp : ops[j]? = some p) (hq : ops[i]? = some q) (hne : i ≠ j) {t : Tmp} (ht : t ∈ namesOf ops p) (hw : q.dst = some t) :
    (i < j ∧ (bf.getD j 0).testBit i = true) ∨ (j < i ∧ (bf.getD i 0).testBit j = true) := by
  unfold tmpsOk at h
  rw [List.all_eq_true] at h
  have h1 := h (p, j) (by rw [List.mem_zipIdx_iff_getElem?]; simpa using hp)
  rw [List.all_eq_true] at h1
  have h2 := h1 (q, i) (by rw [List.mem_zipIdx_iff_getElem?]; simpa using hq)
  have hb : Nat.beq i j = false := nbeq_false hne
  have hany : (namesOf ops p).any (writes q) = true := by
    rw [List.any_eq_true]
    refine ⟨t, ht, ?_⟩
    unfold writes
    rw [hw]
    exact Nat.beq_refl t
  simp only [hb, hany, Bool.not_true, Bool.or_false, Bool.false_or] at h2
  unfold inOrder at h2
  by_cases hlt : i < j
  · rw [if_pos hlt] at h2; exact .inl ⟨hlt, h2⟩
  · rw [if_neg hlt] at h2; exact .inr ⟨by omega, h2⟩

/-- Two sets of operations hold the same writers of what an operation names, where both hold what is before it, hold it or do not, and are closed. -/
theorem names_same {bf : Array Nat} (h : tmpsOk ops bf = true) {D K : Nat → Prop} {i : Nat} {p : Oper} (hp : ops[i]? = some p) (hD1 : ∀ j, (bf.getD i 0).testBit j = true → D j) (hK1 : ∀ j, (bf.getD i 0).testBit j = true → K j)
    (hD2 : ∀ j, D j → j < ops.size → ∀ x, (bf.getD j 0).testBit x = true → D x) (hK2 : ∀ j, K j → j < ops.size → ∀ x, (bf.getD j 0).testBit x = true → K x) (hDi : ¬ D i) (hKi : ¬ K i) {t : Tmp} (ht : t ∈ namesOf ops p) {j : Nat} (hj : dstOf ops j = some t) : D j ↔ K j := by
  unfold dstOf at hj
  cases hq : ops[j]? with
  | none => rw [hq] at hj; cases hj
  | some q =>
    rw [hq] at hj
    have hw : q.dst = some t := hj
    have hjs : j < ops.size := (Array.getElem?_eq_some_iff.1 hq).1
    by_cases hne : j = i
    · subst hne; exact ⟨fun x => absurd x hDi, fun x => absurd x hKi⟩
    · rcases tmpsOk_eq h hp hq hne ht hw with ⟨_, hb⟩ | ⟨_, hb⟩
      · exact ⟨fun _ => hK1 j hb, fun _ => hD1 j hb⟩
      · exact ⟨fun x => absurd (hD2 j x hjs i hb) hDi, fun x => absurd (hK2 j x hjs i hb) hKi⟩

/-- No operation of a closed set that does not hold `i` writes, behind `i`, what `i` writes. -/
theorem no_later {bf : Array Nat} (h : tmpsOk ops bf = true) {D : Nat → Prop} {i : Nat} {p : Oper} (hp : ops[i]? = some p) (hD2 : ∀ j, D j → j < ops.size → ∀ x, (bf.getD j 0).testBit x = true → D x) (hDi : ¬ D i) {t : Tmp} {j : Nat} (hDj : D j) (hij : i < j)
    (hj : dstOf ops j = some t) : dstOf ops i ≠ some t := by
  intro hi
  unfold dstOf at hi hj
  rw [hp] at hi
  have hi' : p.dst = some t := hi
  cases hq : ops[j]? with
  | none => rw [hq] at hj; cases hj
  | some q =>
    rw [hq] at hj
    have hjs : j < ops.size := (Array.getElem?_eq_some_iff.1 hq).1
    have hq' : q.dst = some t := hj
    have hn : t ∈ namesOf ops q := by unfold namesOf; rw [hq']; simp
    rcases tmpsOk_eq h hq hp (by omega : i ≠ j) hn hi' with ⟨_, hb⟩ | ⟨hlt, _⟩
    · exact hDi (hD2 j hDj hjs i hb)
    · omega

end
end Go.AI

/-! The abstract interpreter: regions that draw their order (4): the region's operations, and the order in which it is run here. -/
namespace Go.AI
open Go.RowKit

section
variable {P : Program} {ty : Types} {N : Nat} {ops : Array Oper}

theorem compAll_get : ∀ {is : List Nat} {l : List AO}, compAll ty N ops is = some l → l.length = is.length ∧ ∀ (k i : Nat), is[k]? = some i → ∃ ao, l[k]? = some ao ∧ compOper ty N ops i = some ao := by
  intro is
  induction is with
  | nil => intro l h; cases h; exact ⟨rfl, fun k i h => by simp at h⟩
  | cons j is ih =>
    intro l h
    unfold compAll at h
    simp only [Option.bind_eq_bind, Option.bind_eq_some_iff, Option.some.injEq] at h
    obtain ⟨o, h1, os, h2, rfl⟩ := h
    obtain ⟨k1, k2⟩ := ih h2
    refine ⟨by simp [k1], fun k i hk => ?_⟩
    cases k with
    | zero => simp at hk; subst hk; exact ⟨o, rfl, h1⟩
    | succ k => simpa using k2 k i (by simpa using hk)

/-- The region's operations, compiled. -/
theorem region_get {l : List AO} (h : compAll ty N ops (List.range ops.size) = some l) : l.length = ops.size ∧ ∀ i, i < ops.size → ∃ o ao, ops[i]? = some o ∧ l[i]? = some ao ∧ compGuard ops o.guard = some ao.guard ∧ compOp ty o.op = some ao.op ∧ dstOk N o.dst = true ∧
    ao.dst = o.dst ∧ ao.at_ = i ∧ ao.again = [] := by
  obtain ⟨h1, h2⟩ := compAll_get h
  refine ⟨by simpa using h1, fun i hi => ?_⟩
  obtain ⟨ao, h3, h4⟩ := h2 i i (by simp [hi])
  obtain ⟨o, g1, g2, g3, g4, g5, g6, g7⟩ := compOper_ok h4
  exact ⟨o, ao, g1, h3, g2, g3, g4, g5, g6, g7⟩

/-- One more operation is done. -/
theorem bit_or (done i x : Nat) : (done ||| 2 ^ i).testBit x = true ↔ done.testBit x = true ∨ x = i := by
  rw [Nat.testBit_or, Nat.testBit_two_pow, Bool.or_eq_true, decide_eq_true_eq]
  constructor <;> rintro (h | h) <;> first | exact .inl h | exact .inr h.symm

theorem and_eq_bits {a b : Nat} (h : Nat.beq (a &&& b) a = true) {x : Nat} (hx : a.testBit x = true) : b.testBit x = true := by
  have h' := eq_of_nbeq h
  have := congrArg (fun n => n.testBit x) h'
  simp only [Nat.testBit_and, hx, Bool.true_and] at this
  exact this

structure KappaR (l : List AO) (bf : Array Nat) (i : Nat) (is : List Nat) (done : Nat) : Prop where
  lt : i < l.length
  new : done.testBit i = false
  before : ∀ x, (bf.getD i 0).testBit x = true → done.testBit x = true
  hard : hardAt l i = true → ∀ x, x < l.length → x = i ∨ done.testBit x = true ∨ (bf.getD x 0).testBit i = true
  rest : kappaOk l bf is (done ||| 2 ^ i) = true

theorem kappa_cons {l : List AO} {bf : Array Nat} {i : Nat} {is : List Nat} {done : Nat} (h : kappaOk l bf (i :: is) done = true) : KappaR l bf i is done := by
  unfold kappaOk at h
  simp only [Bool.and_eq_true] at h
  obtain ⟨⟨⟨⟨h1, h2⟩, h3⟩, h4⟩, h5⟩ := h
  refine ⟨by rw [Nat.blt_eq] at h1; exact h1, by simpa using h2, fun x hx => and_eq_bits h3 hx, fun hh x hx => ?_, h5⟩
  rw [hh] at h4
  simp only [Bool.not_true, Bool.false_or, List.all_eq_true] at h4
  have := h4 x (by simp [hx])
  simp only [Bool.or_eq_true] at this
  rcases this with (h | h) | h
  · exact .inl (eq_of_nbeq h)
  · exact .inr (.inl h)
  · exact .inr (.inr h)

theorem kappa_nil {l : List AO} {bf : Array Nat} {done : Nat} (h : kappaOk l bf [] done = true) {x : Nat} (hx : x < l.length) : done.testBit x = true := by
  unfold kappaOk at h
  rw [List.all_eq_true] at h
  exact h x (by simp [hx])

theorem arrange_cons {l : List AO} {bf : Array Nat} {i : Nat} {is : List Nat} {done : Nat} {al : List AO} (h : arrange l bf (i :: is) done = some al) :
    ∃ o os, l[i]? = some o ∧ arrange l bf is (done ||| 2 ^ i) = some os ∧ al = { o with again := againOf l bf i done } :: os := by
  unfold arrange at h
  simp only [Option.bind_eq_bind, Option.bind_eq_some_iff, Option.some.injEq] at h
  obtain ⟨o, h1, os, h2, rfl⟩ := h
  exact ⟨o, os, h1, h2, rfl⟩

theorem again_mem {l : List AO} {bf : Array Nat} {i r done : Nat} {o : AO} (hh : hardAt l i = true) (hr : l[r]? = some o) (hd : done.testBit r = true) (hb : (bf.getD i 0).testBit r = false) (hk : readK o.op = true) : r ∈ againOf l bf i done := by
  unfold againOf
  rw [if_pos hh, List.mem_filter]
  refine ⟨by simp [(List.getElem?_eq_some_iff.1 hr).1], ?_⟩
  rw [hd, hb, hr]
  simp [hk]

theorem hardAt_eq {l : List AO} {i : Nat} {o : AO} (h : l[i]? = some o) : hardAt l i = hardK o.op := by unfold hardAt; rw [h]

theorem guardsOk_eq {bf : Array Nat} (h : guardsOk ops bf = true) {i j : Nat} {o : Oper} {b : Bool} (ho : ops[i]? = some o) (hg : o.guard = some (j, b)) : (bf.getD i 0).testBit j = true := by
  unfold guardsOk at h
  rw [List.all_eq_true] at h
  have := h (o, i) (by rw [List.mem_zipIdx_iff_getElem?]; simpa using ho)
  simp only [hg] at this
  exact this

theorem hardsOk_eq {l : List AO} {bf : Array Nat} (h : hardsOk l bf = true) {i j : Nat} (hij : i < j) (hj : j < l.length) (h1 : hardAt l i = true) (h2 : hardAt l j = true) : (bf.getD j 0).testBit i = true := by
  unfold hardsOk at h
  rw [List.all_eq_true] at h
  have := h j (by simp [hj])
  rw [h2] at this
  simp only [Bool.not_true, Bool.false_or, List.all_eq_true] at this
  have := this i (by simp [hij])
  rw [h1] at this
  simpa using this

theorem forget_get : ∀ (os : List AO) (tm : Trie Value) (t : Nat) (v : Value), (forget os tm).get t = some v → (v = unknown ∧ ∃ o ∈ os, o.dst = some t) ∨ ((∀ o ∈ os, o.dst ≠ some t) ∧ tm.get t = some v) := by
  intro os
  induction os with
  | nil => intro tm t v h; exact .inr ⟨by simp, h⟩
  | cons o os ih =>
    intro tm t v h
    simp only [forget] at h
    rcases ih _ t v h with ⟨h1, o', h2, h3⟩ | ⟨h1, h2⟩
    · exact .inl ⟨h1, o', by simp [h2], h3⟩
    · cases hd : o.dst with
      | none =>
        rw [hd] at h2
        refine .inr ⟨fun o' ho' => ?_, h2⟩
        rcases List.mem_cons.1 ho' with rfl | ho'
        · rw [hd]; simp
        · exact h1 o' ho'
      | some d =>
        rw [hd] at h2
        simp only at h2
        rw [Trie.get_set] at h2
        by_cases htd : t = d
        · rw [if_pos htd] at h2; cases h2; exact .inl ⟨rfl, o, by simp, by rw [hd, htd]⟩
        · rw [if_neg htd] at h2
          refine .inr ⟨fun o' ho' => ?_, h2⟩
          rcases List.mem_cons.1 ho' with rfl | ho'
          · rw [hd]; simp; exact fun x => htd x.symm
          · exact h1 o' ho'

end
end Go.AI

/-! The abstract interpreter: regions that draw their order (5): what is kept while such a region is run. -/
namespace Go.AI
open Go.RowKit

/-- A region that draws its order, and what has been looked at of it. -/
structure RegOk (ty : Types) (N : Nat) (ops : Array Oper) (l : List AO) : Prop where
  comp : compAll ty N ops (List.range ops.size) = some l
  edges : edgesOk ops = true
  tmps : tmpsOk ops (Region.before ops) = true
  guards : guardsOk ops (Region.before ops) = true
  hards : hardsOk l (Region.before ops) = true

/-- An abstract object without an other side. -/
def Fresh (μ : Mu) (s : St) (id : Nat) (ob : AObj) : Prop := s.objs.get id = some ⟨ob, id, 0, false⟩ ∧ s.fams.get id = none ∧ μ id = none ∧ id < s.next

/-- An operation that has been run here, and not yet on the machine. -/
def PendF (P : Program) (μ : Mu) (s : St) (o : Oper) (ao : AO) (tm : Trie Value) (v : Value) (id : Option Nat) : Prop :=
  ∃ wt, wanted tm ao.guard = some wt ∧ (wt = false → v = Go.undef) ∧ (wt = true → ∃ k f, ao.op = .op k f ∧
    ((ValS P o f ∧ f tm ⟨.leaf, .leaf, 0⟩ = some (v, ⟨.leaf, .leaf, 0⟩)) ∨
     (NewS P o f ∧ ∃ ob i, id = some i ∧ f tm ⟨.leaf, .leaf, i⟩ = some (v, St.new ⟨.leaf, .leaf, i⟩ ob) ∧ Fresh μ s i ob) ∨
     (ReadS P o f ∧ k = .reads ∧ f tm s = some (v, s))))

theorem Fresh.new {μ : Mu} {s : St} {id : Nat} {ob ob' : AObj} (h : Fresh μ s id ob) : Fresh μ (s.new ob') id ob := by
  obtain ⟨h1, h2, h3, h4⟩ := h
  refine ⟨?_, h2, h3, Nat.lt_succ_of_lt h4⟩
  rw [new_objs, if_neg (by omega)]; exact h1

theorem Fresh.kept {B0 : Nat} {μ μ' : Mu} {s s' : St} {w w' : World} {id : Nat} {ob : AObj} (h : Fresh μ s id ob) (hk : Kept B0 μ s w μ' s' w') : Fresh μ' s' id ob := by
  obtain ⟨h1, h2, h3, h4⟩ := h
  obtain ⟨k1, k2, k3⟩ := hk.fresh id h4 h3
  exact ⟨k2.trans h1, k3.trans h2, k1, Nat.lt_of_lt_of_le h4 hk.next⟩

theorem Fresh.put {μ : Mu} {s : St} {id id' : Nat} {ob : AObj} {l : Loc} (h : Fresh μ s id ob) (hne : id ≠ id') : Fresh (μ.put id' l) s id ob := by
  obtain ⟨h1, h2, h3, h4⟩ := h
  exact ⟨h1, h2, by unfold Mu.put; rw [if_neg hne]; exact h3, h4⟩

/-- A new object changes nothing of what is not yet run on the machine. -/
theorem PendF.new {P : Program} {μ : Mu} {s : St} {o : Oper} {ao : AO} {tm : Trie Value} {v : Value} {id : Option Nat} (h : PendF P μ s o ao tm v id) (h1 : s.objs.get s.next = none) (h2 : s.fams.get s.next = none) (ob : AObj) : PendF P μ (s.new ob) o ao tm v id := by
  obtain ⟨wt, g1, g2, g3⟩ := h
  refine ⟨wt, g1, g2, fun hw => ?_⟩
  obtain ⟨k, f, e1, e2⟩ := g3 hw
  refine ⟨k, f, e1, ?_⟩
  rcases e2 with e2 | ⟨e2, ob', i, e0, e3, e4⟩ | ⟨e2, e3, e4⟩
  · exact .inl e2
  · exact .inr (.inl ⟨e2, ob', i, e0, e3, e4.new⟩)
  · exact .inr (.inr ⟨e2, e3, (e2 tm s v s e4).2.1 ob h1 h2⟩)

/-- Such an operation is carried out on the machine. -/
theorem pend_run {P : Program} {ty : Types} {LR : LoopOk} {B0 : Nat} {μ : Mu} {s : St} {w : World} {o : Oper} {ao : AO} {tm tmD : Trie Value} {v : Value} {id : Option Nat} (hc : compOp ty o.op = some ao.op) (ha : Agree o.op.operands.toList tm tmD) (hw : wanted tm ao.guard = some true)
    (h : PendF P μ s o ao tm v id) (hR : Rel LR B0 μ s w) {a : Act} (ht : TR μ tmD a.tmps) :
    ∃ v' μ' w', (execOp a.eval o).run P w = .ok (.value v') w' ∧ VR μ' v v' ∧ Rel LR B0 μ' s w' ∧ Ext μ μ' ∧ ((μ' = μ ∧ w' = w) ∨ ∃ O l i, id = some i ∧ μ i = none ∧ μ' = μ.put i l ∧ w' = w.alloc O) := by
  obtain ⟨wt, g1, _, g3⟩ := h
  rw [hw] at g1; cases g1
  obtain ⟨k, f, e1, e2⟩ := g3 rfl
  rw [e1] at hc
  rcases e2 with ⟨e2, e3⟩ | ⟨e2, ob, i, e0, e3, e4⟩ | ⟨e2, _, e3⟩
  · rw [compOp_loc hc ha] at e3
    obtain ⟨_, _, k1⟩ := e2 _ _ _ _ e3
    obtain ⟨v', k2, k3⟩ := k1 μ a w ht
    exact ⟨v', μ, w, k2, k3, hR, .refl μ, .inl ⟨rfl, rfl⟩⟩
  · rw [compOp_loc hc ha] at e3
    obtain ⟨ob', val, k1, k2, _, k3⟩ := e2 _ _ _ _ e3
    have hob : ob' = ob := by
      have := congrArg (fun s : St => s.objs.get i) k1
      simp only [new_objs, if_true] at this
      injection this with this
      injection this with this
      exact this.symm
    subst hob
    obtain ⟨O, v', lim, k4, k5, k6⟩ := k3 μ a w ht
    obtain ⟨m1, m2, m3, m4⟩ := e4
    have hext := Mu.put_ext (⟨w.heap.size, 0, lim⟩ : Loc) m3
    refine ⟨v', μ.put i ⟨w.heap.size, 0, lim⟩, w.alloc O, k4, ?_, hR.claim m1 m2 m3 (k5 LR _ _ hext (World.alloc_heap_new _ _)), hext, .inr ⟨O, _, i, e0, m3, rfl, rfl⟩⟩
    rw [k2]
    exact k6 _ _ (Mu.put_same ..)
  · rw [compOp_loc hc ha] at e3
    obtain ⟨_, _, k1⟩ := e2 _ _ _ _ e3
    obtain ⟨v', k2, k3⟩ := k1 LR B0 μ a w hR ht
    exact ⟨v', μ, w, k2, k3, hR, .refl μ, .inl ⟨rfl, rfl⟩⟩

end Go.AI

/-! The abstract interpreter: regions that draw their order (6): the invariant. -/
namespace Go.AI
open Go.RowKit

/-- What a region is run in. -/
structure Site where
  P : Program
  LR : LoopOk
  B0 : Nat
  N : Nat
  C : Calls'
  ops : Array Oper
  l : List AO
  rd : Option Nat
  g0 : Nat → Option Value
  all : List AO
  q : Ran
  μ0 : Mu
  s0 : St
  w0 : World
  low : Nat

/-- The state here: what is done, what is to come, what has been read, the frame, the heap; for each operation what it has put, in which store, which object it has made. -/
structure Here where
  is : List Nat
  done : Nat
  al : List AO
  log : List Seen
  fr : Fr
  s : St
  vals : Nat → Value
  tmc : Nat → Trie Value
  ids : Nat → Option Nat

def Here.K (h : Here) (j : Nat) : Prop := h.done.testBit j = true

/-- An operation that has been run here, and not yet on the machine. -/
def PastF (S : Site) (h : Here) (μ : Mu) (j : Nat) : Prop :=
  ∃ o ao, ∃ Kj : Nat → Prop, S.ops[j]? = some o ∧ S.l[j]? = some ao ∧ (∀ i, Kj i → i < S.ops.size → ∀ x, ((Region.before S.ops).getD i 0).testBit x = true → Kj x) ∧ (∀ x, ((Region.before S.ops).getD j 0).testBit x = true → Kj x) ∧
    ¬ Kj j ∧ (∀ x, Kj x → h.K x) ∧ (∀ t, (h.tmc j).get t = gv S.ops S.g0 h.vals Kj S.ops.size t) ∧ PendF S.P μ h.s o ao (h.tmc j) (h.vals j) (h.ids j) ∧
    (∀ f, ao.op = .op .reads f → wanted (h.tmc j) ao.guard = some true → (⟨j, f, h.tmc j, h.vals j⟩ : Seen) ∈ h.log)

structure Inv (S : Site) (D : Nat → Prop) (h : Here) (μ : Mu) (a : Act) (w : World) : Prop where
  kappa : kappaOk S.l (Region.before S.ops) h.is h.done = true
  arr : arrange S.l (Region.before S.ops) h.is h.done = some h.al
  run : drawnV S.C S.rd S.all h.al h.log h.fr h.s = some S.q
  canon : ∀ t, h.fr.tm.get t = gv S.ops S.g0 h.vals h.K S.ops.size t
  closedK : ∀ j, h.K j → j < S.ops.size → ∀ x, ((Region.before S.ops).getD j 0).testBit x = true → h.K x
  sub : ∀ j, D j → h.K j
  lt : ∀ j, h.K j → j < S.ops.size
  closed : Closed S.ops D
  hardD : ∀ j, h.K j → hardAt S.l j = true → D j
  past : ∀ j, h.K j → ¬ D j → PastF S h μ j
  idsInj : ∀ j j' i, h.K j → h.K j' → h.ids j = some i → h.ids j' = some i → j = j'
  idsIn : ∀ j i, h.K j → h.ids j = some i → S.low ≤ i ∧ i < h.s.next
  rel : Rel S.LR S.B0 μ h.s w
  kept : Kept S.B0 S.μ0 S.s0 S.w0 μ h.s w
  low : S.s0.next ≤ S.low
  lown : S.low ≤ h.s.next
  gok : GOk μ
  temps : ∀ t v, gv S.ops S.g0 h.vals D S.ops.size t = some v → ∃ v', a.tmps[t]? = some v' ∧ VR μ v v'
  defs : DefsR μ h.fr.defers a.defers
  size : S.N ≤ a.tmps.size

/-- A store of temporaries that holds what is known on the machine. -/
noncomputable def gather1 (g : Nat → Option Value) : Nat → Trie Value → Trie Value
  | 0, tm => tm
  | n + 1, tm => match g n with
    | some v => (gather1 g n tm).set n v
    | none => gather1 g n tm

theorem gather1_get (g : Nat → Option Value) : ∀ (n t : Nat), (gather1 g n .leaf).get t = if t < n then g t else none := by
  intro n
  induction n with
  | zero => intro t; simp [gather1]
  | succ n ih =>
    intro t
    simp only [gather1]
    cases hg : g n with
    | none =>
      simp only
      rw [ih]
      by_cases h1 : t < n
      · rw [if_pos h1, if_pos (by omega)]
      · rw [if_neg h1]
        by_cases h2 : t = n
        · subst h2; rw [if_pos (by omega), hg]
        · rw [if_neg (by omega)]
    | some v =>
      simp only
      rw [Trie.get_set]
      by_cases h2 : t = n
      · subst h2; rw [if_pos rfl, if_pos (by omega), hg]
      · rw [if_neg h2, ih]
        by_cases h1 : t < n
        · rw [if_pos h1, if_pos (by omega)]
        · rw [if_neg h1, if_neg (by omega)]

end Go.AI

/-! The abstract interpreter: regions that draw their order (7): an operation is carried out on the machine that has been run here. -/
namespace Go.AI
open Go.RowKit

section
variable {S : Site} {ty : Types} {D : Nat → Prop} {h : Here} {μ : Mu} {a : Act} {w : World}

noncomputable def storeOf (S : Site) (D : Nat → Prop) (h : Here) (a : Act) : Trie Value := gather1 (gv S.ops S.g0 h.vals D S.ops.size) a.tmps.size .leaf

theorem Inv.store_get (hI : Inv S D h μ a w) (t : Nat) : (storeOf S D h a).get t = gv S.ops S.g0 h.vals D S.ops.size t := by
  unfold storeOf
  rw [gather1_get]
  by_cases ht : t < a.tmps.size
  · rw [if_pos ht]
  · rw [if_neg ht]
    cases hg : gv S.ops S.g0 h.vals D S.ops.size t with
    | none => rfl
    | some v =>
      obtain ⟨v', h1, _⟩ := hI.temps t v hg
      exact absurd (Array.getElem?_eq_some_iff.1 h1).1 ht

theorem Inv.store_tr (hI : Inv S D h μ a w) : TR μ (storeOf S D h a) a.tmps := ⟨hI.gok, fun t v hv => hI.temps t v (by rw [← hI.store_get t]; exact hv)⟩

/-- What is done is closed. -/
theorem Inv.closedD (hI : Inv S D h μ a w) : ∀ j, D j → j < S.ops.size → ∀ x, ((Region.before S.ops).getD j 0).testBit x = true → D x := fun _ hj hlt _ hx => before_closed hI.closed hlt hj hx

/-- The store agrees with the one in which the operation was run here. -/
theorem Inv.agree (hReg : RegOk ty S.N S.ops S.l) (hI : Inv S D h μ a w) {j : Nat} {o : Oper} (ho : S.ops[j]? = some o) (hn : ¬ D j) (hr : ∀ x, ((Region.before S.ops).getD j 0).testBit x = true → D x) {Kj : Nat → Prop}
    (k1 : ∀ i, Kj i → i < S.ops.size → ∀ x, ((Region.before S.ops).getD i 0).testBit x = true → Kj x) (k2 : ∀ x, ((Region.before S.ops).getD j 0).testBit x = true → Kj x) (k3 : ¬ Kj j)
    (k4 : ∀ t, (h.tmc j).get t = gv S.ops S.g0 h.vals Kj S.ops.size t) : ∀ t ∈ namesOf S.ops o, (h.tmc j).get t = (storeOf S D h a).get t := by
  intro t ht
  rw [k4, hI.store_get]
  exact gv_congr fun i _ hi => ⟨names_same hReg.tmps ho k2 hr k1 hI.closedD k3 hn ht hi, fun _ => rfl⟩

theorem agree_of_names {o : Oper} {ops : Array Oper} {tm tm' : Trie Value} (h : ∀ t ∈ namesOf ops o, tm.get t = tm'.get t) : Agree o.op.operands.toList tm tm' := by
  intro t ht
  refine h t ?_
  unfold namesOf
  simp only [List.mem_append]
  refine .inl (.inr ?_)
  unfold optmps
  rw [List.mem_filterMap]
  exact ⟨.tmp t, ht, rfl⟩

theorem wanted_of_names {o : Oper} {ops : Array Oper} {tm tm' : Trie Value} (h : ∀ t ∈ namesOf ops o, tm.get t = tm'.get t) {ag : Option (Nat × Bool)} (hg : compGuard ops o.guard = some ag) : wanted tm ag = wanted tm' ag := by
  rcases compGuard_ok hg with ⟨_, rfl⟩ | ⟨j, b, d, h1, h2, rfl⟩
  · rfl
  · unfold wanted
    simp only [optE_some]
    rw [h d ?_]
    unfold namesOf
    simp only [List.mem_append]
    right
    rw [h1]
    simp [h2]

end
end Go.AI

/-! The abstract interpreter: regions that draw their order (8): one operation that has been run here is carried out on the machine. -/
namespace Go.AI
open Go.RowKit

section
variable {S : Site} {ty : Types} {D : Nat → Prop} {h : Here} {μ : Mu} {a : Act} {w : World}

/-- The invariant behind an operation: what it has put stands in its temporary; the machine's world may have a new block. -/
theorem Inv.did (hReg : RegOk ty S.N S.ops S.l) (hI : Inv S D h μ a w) {j : Nat} {o : Oper} {ao : AO} (ho : S.ops[j]? = some o) (hao : S.l[j]? = some ao) (hd : dstOk S.N o.dst = true) (hK : h.K j) (hn : ¬ D j)
    (hr : ∀ e ∈ o.after, Region.binds .any e = true → D e.on) {v' : Value} {μ' : Mu} {w' : World} (hv : VR μ' (h.vals j) v') (hR : Rel S.LR S.B0 μ' h.s w') (hx : Ext μ μ')
    (hm : (μ' = μ ∧ w' = w) ∨ ∃ O l i, h.ids j = some i ∧ μ i = none ∧ μ' = μ.put i l ∧ w' = w.alloc O) : Inv S (fun x => D x ∨ x = j) h μ' (a.put o.dst v') w' := by
  have hbefore : ∀ x, ((Region.before S.ops).getD j 0).testBit x = true → D x := fun x hx => before_ready hReg.edges hI.closed ho hr hx
  have hjlt := hI.lt j hK
  have hkept : Kept S.B0 S.μ0 S.s0 S.w0 μ' h.s w' := by
    rcases hm with ⟨rfl, rfl⟩ | ⟨O, l, i, h1, h2, rfl, rfl⟩
    · exact hI.kept
    · refine ⟨hI.kept.ext.trans hx, fun k hk hm0 => ?_, hI.kept.next, hI.kept.below.alloc hI.rel.low O⟩
      obtain ⟨k1, k2⟩ := hI.kept.fresh k hk hm0
      refine ⟨?_, k2⟩
      have hlo := (hI.idsIn j i hK h1).1
      have := hI.low
      unfold Mu.put
      rw [if_neg (by omega)]
      exact k1
  refine ⟨hI.kappa, hI.arr, hI.run, hI.canon, hI.closedK, ?_, hI.lt, ?_, ?_, ?_, hI.idsInj, hI.idsIn, hR, hkept, hI.low, hI.lown, ?_, ?_, DefsR.mono hx ?_, ?_⟩
  · rintro x (h1 | rfl)
    · exact hI.sub x h1
    · exact hK
  · intro k ok hk hDk e he hb
    rcases hDk with hDk | rfl
    · exact .inl (hI.closed k ok hk hDk e he hb)
    · rw [ho] at hk; cases hk; exact .inl (hr e he hb)
  · intro x hxK hh; exact .inl (hI.hardD x hxK hh)
  · intro x hxK hxn
    obtain ⟨o2, a2, Kj, g1, g2, g3, g4, g5, g6, g7, g8, g9⟩ := hI.past x hxK (fun y => hxn (.inl y))
    refine ⟨o2, a2, Kj, g1, g2, g3, g4, g5, g6, g7, ?_, g9⟩
    obtain ⟨wt, e1, e2, e3⟩ := g8
    refine ⟨wt, e1, e2, fun hw => ?_⟩
    obtain ⟨k, f, e4, e5⟩ := e3 hw
    refine ⟨k, f, e4, ?_⟩
    rcases e5 with e5 | ⟨e5, ob, i, e6, e7, e8⟩ | e5
    · exact .inl e5
    · refine .inr (.inl ⟨e5, ob, i, e6, e7, ?_⟩)
      rcases hm with ⟨rfl, rfl⟩ | ⟨O, l, i', h1, h2, rfl, rfl⟩
      · exact e8
      · refine e8.put fun hii => hxn (.inr ?_)
        subst hii
        exact hI.idsInj x j i hxK hK e6 h1
    · exact .inr (.inr e5)
  · obtain ⟨lim, hg⟩ := hI.gok
    exact ⟨lim, hx _ _ hg⟩
  · intro t v hv2
    rw [gv_add hjlt (fun k hk hjk hdk => no_later hReg.tmps ho hI.closedD hn hk hjk hdk)] at hv2
    have hdst : dstOf S.ops j = o.dst := by unfold dstOf; rw [ho]; rfl
    rw [hdst] at hv2
    cases hod : o.dst with
    | none =>
      rw [hod, if_neg (by simp)] at hv2
      obtain ⟨u, h1, h2⟩ := hI.temps t v hv2
      exact ⟨u, h1, h2.mono hx⟩
    | some d =>
      rw [hod] at hv2 hd
      have hlt : d < S.N := by unfold dstOk at hd; rw [Nat.blt_eq] at hd; exact hd
      have hdl : d < a.tmps.size := Nat.lt_of_lt_of_le hlt hI.size
      show ∃ u, (a.tmps.setIfInBounds d v')[t]? = some u ∧ _
      by_cases htd : d = t
      · subst htd
        rw [if_pos rfl] at hv2
        cases hv2
        exact ⟨v', by rw [Array.getElem?_setIfInBounds_self_of_lt hdl], hv⟩
      · rw [if_neg (by simpa using htd)] at hv2
        obtain ⟨u, h1, h2⟩ := hI.temps t v hv2
        exact ⟨u, by rw [Array.getElem?_setIfInBounds_ne htd]; exact h1, h2.mono hx⟩
  · have := hI.defs
    cases o.dst <;> exact this
  · have := hI.size
    cases hod : o.dst with
    | none => exact this
    | some d => show S.N ≤ (a.tmps.setIfInBounds d v').size; rw [Array.size_setIfInBounds]; exact this

end
end Go.AI

/-! The abstract interpreter: regions that draw their order (9): an operation that is not hard, on the machine. -/
namespace Go.AI
open Go.RowKit

section
variable {S : Site} {ty : Types} {D : Nat → Prop} {h : Here} {μ : Mu} {a : Act} {w : World}

/-- An operation that has been run here is carried out on the machine. -/
theorem stepA (hReg : RegOk ty S.N S.ops S.l) {F : Fence} (hfe : FenceR μ S.rd F) (hI : Inv S D h μ a w) {j : Nat} {o : Oper} (ho : S.ops[j]? = some o) (hK : h.K j) (hn : ¬ D j)
    (hr : ∀ e ∈ o.after, Region.binds .any e = true → D e.on) {Q : Exit → Act → World → Prop} {X : Act → World → Prop}
    (hX : ∀ μ' a' w', Ext μ μ' → Inv S (fun x => D x ∨ x = j) h μ' a' w' → X a' w') : wpOpIn F 0 S.P S.ops Q j X a w := by
  have hbefore : ∀ x, ((Region.before S.ops).getD j 0).testBit x = true → D x := fun x hx => before_ready hReg.edges hI.closed ho hr hx
  obtain ⟨o2, ao, Kj, g1, g2, g3, g4, g5, g6, g7, g8, g9⟩ := hI.past j hK hn
  rw [ho] at g1; cases g1
  obtain ⟨o3, ao3, k1, k2, k3, k4, k5, _⟩ := (region_get hReg.comp).2 j (hI.lt j hK)
  rw [ho] at k1; cases k1
  rw [g2] at k2; cases k2
  have hag := hI.agree hReg ho hn hbefore g3 g4 g5 g7
  unfold wpOpIn
  simp only [ho]
  obtain ⟨wt, e1, e2, e3⟩ := g8
  have hw : wanted (storeOf S D h a) ao.guard = some wt := by rw [← wanted_of_names hag k3]; exact e1
  rw [wanted_ok k3 hI.store_tr hw]
  cases wt with
  | false =>
    simp only [Bool.false_eq_true, if_false]
    refine ⟨about_ok hfe o w a, hX μ _ w (.refl μ) (hI.did hReg ho g2 k5 hK hn hr (v' := Go.undef) ?_ hI.rel (.refl μ) (.inl ⟨rfl, rfl⟩))⟩
    rw [e2 rfl]; exact VR.undef μ
  | true =>
    simp only [if_true]
    obtain ⟨v', μ', w', r1, r2, r3, r4, r5⟩ := pend_run k4 (agree_of_names hag) e1 ⟨true, e1, e2, e3⟩ hI.rel (a := a) hI.store_tr
    refine ⟨about_ok hfe o w a, ?_⟩
    have hnd : ∀ c, o.op ≠ .defer c := by
      intro c hc
      obtain ⟨k, f, q1, _⟩ := e3 rfl
      rw [hc, q1] at k4
      simp only [compOp, Option.bind_eq_bind, Option.bind_eq_some_iff] at k4
      obtain ⟨xs, _, k4⟩ := k4
      split at k4
      · simp only [Option.map_eq_some_iff] at k4; obtain ⟨_, _, k4⟩ := k4; cases k4
      · cases k4
    rw [Oper.semAt_eq _ _ _ hnd, r1]
    exact hX μ' _ w' r4 (hI.did hReg ho g2 k5 hK hn hr r2 r3 r4 r5)

end
end Go.AI

/-! The abstract interpreter: regions that draw their order (10): what is not hard is run here as soon as it may. -/
namespace Go.AI
open Go.RowKit

def upd {α : Type} (f : Nat → α) (i : Nat) (x : α) : Nat → α := fun j => if j = i then x else f j
theorem upd_same {α : Type} (f : Nat → α) (i : Nat) (x : α) : upd f i x i = x := by simp [upd]
theorem upd_ne {α : Type} (f : Nat → α) {i j : Nat} (x : α) (h : j ≠ i) : upd f i x j = f j := by simp [upd, h]

/-- The state behind an operation that has been run here. -/
def Here.next (h : Here) (i : Nat) (is : List Nat) (al : List AO) (log : List Seen) (fr : Fr) (s : St) (v : Value) (id : Option Nat) : Here :=
  ⟨is, h.done ||| 2 ^ i, al, log, fr, s, upd h.vals i v, upd h.tmc i h.fr.tm, upd h.ids i id⟩

section
variable {S : Site} {ty : Types} {D : Nat → Prop} {h : Here} {μ : Mu} {a : Act} {w : World}

theorem next_K (h : Here) (i : Nat) (is : List Nat) (al : List AO) (log : List Seen) (fr : Fr) (s : St) (v : Value) (id : Option Nat) (x : Nat) : (h.next i is al log fr s v id).K x ↔ h.K x ∨ x = i := bit_or h.done i x

/-- What stood in the temporaries stands there. -/
theorem gv_upd {ops : Array Oper} {g0 : Nat → Option Value} {vals : Nat → Value} {K : Nat → Prop} {i n t : Nat} {v : Value} (hi : ¬ K i) : gv ops g0 (upd vals i v) K n t = gv ops g0 vals K n t :=
  gv_congr fun _ _ _ => ⟨Iff.rfl, fun hj => upd_ne _ _ fun x => hi (x ▸ hj)⟩

/-- An operation has been run here. -/
theorem Inv.ran (hReg : RegOk ty S.N S.ops S.l) (hI : Inv S D h μ a w) {i : Nat} {is : List Nat} {al : List AO} (hk : KappaR S.l (Region.before S.ops) i is h.done) (harr : arrange S.l (Region.before S.ops) is (h.done ||| 2 ^ i) = some al)
    {o : Oper} {ao : AO} (ho : S.ops[i]? = some o) (hao : S.l[i]? = some ao) (hh : hardAt S.l i = false) {log : List Seen} {s : St} {v : Value} {id : Option Nat} (hlog : ∀ x ∈ h.log, x ∈ log) (hrun : drawnV S.C S.rd S.all al log (put h.fr o.dst v) s = some S.q)
    (hs : s = h.s ∨ ∃ ob, s = h.s.new ob) (hid : ∀ k, id = some k → k = h.s.next ∧ s.next = h.s.next + 1) (hp : PendF S.P μ s o ao h.fr.tm v id) (hread : ∀ f, ao.op = .op .reads f → wanted h.fr.tm ao.guard = some true → (⟨i, f, h.fr.tm, v⟩ : Seen) ∈ log) :
    Inv S D (h.next i is al log (put h.fr o.dst v) s v id) μ a w := by
  have hnK : ¬ h.K i := fun x => by have := hk.new; unfold Here.K at x; rw [x] at this; cases this
  have hlen := (region_get hReg.comp).1
  have hlt : i < S.ops.size := by have := hk.lt; omega
  have hdst : dstOf S.ops i = o.dst := by unfold dstOf; rw [ho]; rfl
  have hnD : ¬ D i := fun x => hnK (hI.sub i x)
  have hsn : h.s.next ≤ s.next := by rcases hs with rfl | ⟨ob, rfl⟩; exact Nat.le_refl _; exact Nat.le_succ _
  refine ⟨hk.rest, harr, hrun, ?_, ?_, ?_, ?_, hI.closed, ?_, ?_, ?_, ?_, ?_, ?_, hI.low, Nat.le_trans hI.lown hsn, hI.gok, ?_, ?_, hI.size⟩
  · intro t
    have e1 : gv S.ops S.g0 (upd h.vals i v) (h.next i is al log (put h.fr o.dst v) s v id).K S.ops.size t = gv S.ops S.g0 (upd h.vals i v) (fun x => h.K x ∨ x = i) S.ops.size t :=
      gv_congr fun j _ _ => ⟨next_K h i is al log _ s v id j, fun _ => rfl⟩
    show (put h.fr o.dst v).tm.get t = gv S.ops S.g0 (upd h.vals i v) _ S.ops.size t
    rw [e1, gv_add hlt (fun k hkk hik hdk => no_later hReg.tmps ho (fun j hj hjl x hx => hI.closedK j hj hjl x hx) hnK hkk hik hdk), hdst, upd_same, gv_upd hnK, ← hI.canon t]
    cases hod : o.dst with
    | none => rw [if_neg (by simp)]; rfl
    | some d =>
      show (h.fr.tm.set d v).get t = _
      rw [Trie.get_set]
      by_cases htd : t = d
      · subst htd; rw [if_pos rfl, if_pos rfl]
      · rw [if_neg htd, if_neg (by simpa [eq_comm] using htd)]
  · intro j hj hjl x hx
    rw [next_K] at hj ⊢
    rcases hj with hj | rfl
    · exact .inl (hI.closedK j hj hjl x hx)
    · exact .inl (hk.before x hx)
  · intro j hj; rw [next_K]; exact .inl (hI.sub j hj)
  · intro j hj
    rw [next_K] at hj
    rcases hj with hj | rfl
    · exact hI.lt j hj
    · exact hlt
  · intro j hj hjh
    rw [next_K] at hj
    rcases hj with hj | rfl
    · exact hI.hardD j hj hjh
    · rw [hh] at hjh; cases hjh
  · intro j hj hjD
    rw [next_K] at hj
    by_cases hji : j = i
    · subst hji
      refine ⟨o, ao, h.K, ho, hao, hI.closedK, hk.before, hnK, fun x hx => by rw [next_K]; exact .inl hx, ?_, ?_, ?_⟩
      · intro t
        show (upd h.tmc j h.fr.tm j).get t = gv S.ops S.g0 (upd h.vals j v) h.K S.ops.size t
        rw [upd_same, gv_upd hnK]; exact hI.canon t
      · show PendF S.P μ s o ao (upd h.tmc j h.fr.tm j) (upd h.vals j v j) (upd h.ids j id j)
        rw [upd_same, upd_same, upd_same]; exact hp
      · intro f hf hw
        show (⟨j, f, upd h.tmc j h.fr.tm j, upd h.vals j v j⟩ : Seen) ∈ log
        have hw' : wanted (upd h.tmc j h.fr.tm j) ao.guard = some true := hw
        rw [upd_same] at hw' ⊢
        rw [upd_same]
        exact hread f hf hw'
    · have hjK : h.K j := hj.resolve_right hji
      obtain ⟨o2, a2, Kj, g1, g2, g3, g4, g5, g6, g7, g8, g9⟩ := hI.past j hjK hjD
      refine ⟨o2, a2, Kj, g1, g2, g3, g4, g5, fun x hx => by rw [next_K]; exact .inl (g6 x hx), ?_, ?_, ?_⟩
      · intro t
        show (upd h.tmc i h.fr.tm j).get t = gv S.ops S.g0 (upd h.vals i v) Kj S.ops.size t
        rw [upd_ne _ _ hji, gv_upd (fun x => hnK (g6 i x))]; exact g7 t
      · show PendF S.P μ s o2 a2 (upd h.tmc i h.fr.tm j) (upd h.vals i v j) (upd h.ids i id j)
        rw [upd_ne _ _ hji, upd_ne _ _ hji, upd_ne _ _ hji]
        rcases hs with rfl | ⟨ob, rfl⟩
        · exact g8
        · exact g8.new hI.rel.next_none hI.rel.fam_next ob
      · intro f hf hw
        show (⟨j, f, upd h.tmc i h.fr.tm j, upd h.vals i v j⟩ : Seen) ∈ log
        have hw' : wanted (upd h.tmc i h.fr.tm j) a2.guard = some true := hw
        rw [upd_ne _ _ hji] at hw' ⊢
        rw [upd_ne _ _ hji]
        exact hlog _ (g9 f hf hw')
  · intro j j' k hj hj' hjk hjk'
    rw [next_K] at hj hj'
    have hjk : upd h.ids i id j = some k := hjk
    have hjk' : upd h.ids i id j' = some k := hjk'
    by_cases h1 : j = i
    · by_cases h2 : j' = i
      · rw [h1, h2]
      · subst h1
        rw [upd_same] at hjk
        rw [upd_ne _ _ h2] at hjk'
        have := (hid k hjk).1
        have := (hI.idsIn j' k (hj'.resolve_right h2) hjk').2
        omega
    · by_cases h2 : j' = i
      · subst h2
        rw [upd_same] at hjk'
        rw [upd_ne _ _ h1] at hjk
        have := (hid k hjk').1
        have := (hI.idsIn j k (hj.resolve_right h1) hjk).2
        omega
      · rw [upd_ne _ _ h1] at hjk
        rw [upd_ne _ _ h2] at hjk'
        exact hI.idsInj j j' k (hj.resolve_right h1) (hj'.resolve_right h2) hjk hjk'
  · intro j k hj hjk
    rw [next_K] at hj
    have hjk : upd h.ids i id j = some k := hjk
    show S.low ≤ k ∧ k < s.next
    by_cases h1 : j = i
    · subst h1
      rw [upd_same] at hjk
      obtain ⟨e1, e2⟩ := hid k hjk
      have := hI.lown
      omega
    · rw [upd_ne _ _ h1] at hjk
      have := hI.idsIn j k (hj.resolve_right h1) hjk
      omega
  · show Rel S.LR S.B0 μ s w
    rcases hs with rfl | ⟨ob, rfl⟩
    · exact hI.rel
    · exact hI.rel.pending ob
  · show Kept S.B0 S.μ0 S.s0 S.w0 μ s w
    rcases hs with rfl | ⟨ob, rfl⟩
    · exact hI.kept
    · exact hI.kept.trans (.pending ob)
  · intro t u hu
    have hu' : gv S.ops S.g0 (upd h.vals i v) D S.ops.size t = some u := hu
    rw [gv_upd hnD] at hu'
    exact hI.temps t u hu'
  · show DefsR μ (put h.fr o.dst v).defers a.defers
    cases o.dst <;> exact hI.defs

end
end Go.AI

/-! The abstract interpreter: regions that draw their order (11): on to the next hard operation. -/
namespace Go.AI
open Go.RowKit

section
variable {S : Site} {ty : Types} {D : Nat → Prop} {μ : Mu} {a : Act} {w : World}

/-- The head of what is to come is hard, or nothing is to come. -/
def Settled (S : Site) (h : Here) : Prop := h.is = [] ∨ ∃ i rest, h.is = i :: rest ∧ hardAt S.l i = true

/-- What has been read. -/
def logOf (k : Kind) (x : Seen) (log : List Seen) : List Seen :=
  match k with
  | .reads => x :: log
  | _ => log

theorem softV_eq {k : Kind} {n : Nat} {f : OpF} {log : List Seen} {dst : Option Nat} {fr : Fr} {r : VS} {K : List Seen → Fr → St → OptRan} {q : Ran} (h : softV k n f log dst fr r K = some q) :
    ∃ v s', r = some (v, s') ∧ K (logOf k ⟨n, f, fr.tm, v⟩ log) (put fr dst v) s' = some q := by
  unfold softV at h
  rw [optE_eq] at h
  obtain ⟨⟨v, s'⟩, h1, h2⟩ := h
  refine ⟨v, s', h1, ?_⟩
  cases k <;> exact h2

theorem settle (hReg : RegOk ty S.N S.ops S.l) (T : TyOk S.P ty) : ∀ (n : Nat) (h : Here), h.is.length = n → Inv S D h μ a w → ∃ h', Inv S D h' μ a w ∧ Settled S h' := by
  intro n
  induction n with
  | zero =>
    intro h hn hI
    exact ⟨h, hI, .inl (List.eq_nil_of_length_eq_zero hn)⟩
  | succ n ih =>
    intro h hn hI
    cases his : h.is with
    | nil => rw [his] at hn; cases hn
    | cons i is =>
      cases hh : hardAt S.l i with
      | true => exact ⟨h, hI, .inr ⟨i, is, his, hh⟩⟩
      | false =>
        have hk := hI.kappa
        have harr := hI.arr
        rw [his] at hk harr hn
        have hk := kappa_cons hk
        obtain ⟨ao, os, h1, h2, h3⟩ := arrange_cons harr
        obtain ⟨o, ao', g1, g2, g3, g4, g5, g6, g7, g8⟩ := (region_get hReg.comp).2 i (by have := hk.lt; have := (region_get hReg.comp).1; omega)
        rw [h1] at g2; cases g2
        have hrun := hI.run
        rw [h3, drawnV_cons, optE_eq] at hrun
        obtain ⟨wt, e1, hrun⟩ := hrun
        simp only at e1 hrun
        have hok := compOp_ok T g4
        have hhk : hardK ao.op = false := by rw [← hardAt_eq h1]; exact hh
        have hlen : ∀ h' : Here, h'.is = is → h'.is.length = n := by intro h' he; rw [he]; simpa using hn
        cases wt with
        | false =>
          rw [ifB_false] at hrun
          rw [g6] at hrun
          have hI' := hI.ran hReg hk h2 g1 h1 hh (log := h.log) (s := h.s) (v := Go.undef) (id := none) (fun _ hx => hx) hrun (.inl rfl) (by intro k hk; cases hk)
            ⟨false, e1, fun _ => rfl, fun hw => by cases hw⟩ (fun f _ hw => by rw [e1] at hw; cases hw)
          exact ih _ (hlen _ rfl) hI'
        | true =>
          rw [ifB_true, hhk, ifB_false] at hrun
          cases hop : ao.op with
          | call f xs => rw [hop] at hhk; cases hhk
          | callF f xs => rw [hop] at hhk; cases hhk
          | invoke nm x xs => rw [hop] at hhk; cases hhk
          | panic x => rw [hop] at hhk; cases hhk
          | defer f xs => rw [hop] at hhk; cases hhk
          | recover => rw [hop] at hhk; cases hhk
          | op k f =>
            have hsoft : softOp h.log { ao with again := againOf S.l (Region.before S.ops) i h.done } h.fr h.s (drawnV S.C S.rd S.all os) = softV k ao.at_ f h.log ao.dst h.fr (f h.fr.tm h.s) (drawnV S.C S.rd S.all os) := by
              unfold softOp
              simp only [hop]
            rw [hsoft, g6] at hrun
            obtain ⟨v, s', e2, hrun⟩ := softV_eq hrun
            rw [hop] at hok
            cases k with
            | hard => rw [hop] at hhk; cases hhk
            | quiet =>
              rcases hok with hV | hN
              · obtain ⟨q1, q2, _⟩ := hV _ _ _ _ e2
                subst q1
                have hI' := hI.ran hReg hk h2 g1 h1 hh (log := h.log) (s := h.s) (v := v) (id := none) (fun _ hx => hx) hrun (.inl rfl) (by intro k hk; cases hk)
                  ⟨true, e1, fun hw => (by cases hw), fun _ => ⟨.quiet, f, hop, .inl ⟨hV, q2 _⟩⟩⟩ (fun f' hf' _ => by rw [hop] at hf'; cases hf')
                exact ih _ (hlen _ rfl) hI'
              · obtain ⟨ob, val, q1, q2, q3, _⟩ := hN _ _ _ _ e2
                subst q1
                have hfresh : Fresh μ (h.s.new ob) h.s.next ob := ⟨by rw [new_objs, if_pos rfl], hI.rel.fam_next, hI.rel.mu_next, Nat.lt_succ_self _⟩
                have hI' := hI.ran hReg hk h2 g1 h1 hh (log := h.log) (s := h.s.new ob) (v := v) (id := some h.s.next) (fun _ hx => hx) hrun (.inr ⟨ob, rfl⟩) (by intro k hk; cases hk; exact ⟨rfl, rfl⟩)
                  ⟨true, e1, fun hw => (by cases hw), fun _ => ⟨.quiet, f, hop, .inr (.inl ⟨hN, ob, h.s.next, rfl, by rw [q2]; exact q3 ⟨.leaf, .leaf, h.s.next⟩, hfresh⟩)⟩⟩ (fun f' hf' _ => by rw [hop] at hf'; cases hf')
                exact ih _ (hlen _ rfl) hI'
            | reads =>
              obtain ⟨q1, _, _⟩ := hok _ _ _ _ e2
              subst q1
              rw [g7] at hrun
              have hI' := hI.ran hReg hk h2 g1 h1 hh (log := ⟨i, f, h.fr.tm, v⟩ :: h.log) (s := h.s) (v := v) (id := none) (fun _ hx => List.mem_cons_of_mem _ hx) hrun (.inl rfl) (by intro k hk; cases hk)
                ⟨true, e1, fun hw => (by cases hw), fun _ => ⟨.reads, f, hop, .inr (.inr ⟨hok, rfl, e2⟩)⟩⟩ (fun f' hf' _ => by rw [hop] at hf'; cases hf'; exact List.mem_cons_self ..)
              exact ih _ (hlen _ rfl) hI'

end
end Go.AI

/-! The abstract interpreter: regions that draw their order (12): values that are the same; what was read is read again. -/
namespace Go.AI
open Go.RowKit

theorem spot_eq {a b : Option Nat} (h : (a == b) = true) : a = b := by simpa using h

theorem veq_both : ∀ (n : Nat), (∀ x y, veqF n x y = true → x = y) ∧ (∀ xs ys, veqL n xs ys = true → xs = ys) := by
  intro n
  induction n with
  | zero => exact ⟨fun x y h => by simp [veqF] at h, fun xs ys h => by simp [veqL] at h⟩
  | succ n ih =>
    obtain ⟨ih1, ih2⟩ := ih
    constructor
    · intro x y h
      unfold veqF at h
      split at h
      · simp at h; rw [h]
      · simp only [Bool.and_eq_true] at h
        obtain ⟨h1, h2⟩ := h
        rw [kEq_eq h1]
        rw [iEq_eq] at h2
        simp at h2; rw [h2]
      · simp at h
        rename_i a b
        have : a = b := by cases a; cases b; congr 1
        rw [this]
      · rfl
      · simp only [Bool.and_eq_true] at h
        obtain ⟨⟨h1, h2⟩, h3⟩ := h
        rename_i a b
        have e1 := eq_of_nbeq h1; have e2 := eq_of_nbeq h2; have e3 := spot_eq h3
        cases a; cases b; simp only at e1 e2 e3; rw [e1, e2, e3]
      · simp only [Bool.and_eq_true] at h
        rw [eq_of_nbeq h.1, eq_of_nbeq h.2]
      · simp only [Bool.and_eq_true] at h
        obtain ⟨⟨⟨⟨h1, h2⟩, h3⟩, h4⟩, h5⟩ := h
        rename_i a _ _ b _ _
        have e1 := eq_of_nbeq h1; have e2 := eq_of_nbeq h2; have e3 := spot_eq h3
        rw [eq_of_nbeq h4, eq_of_nbeq h5]
        cases a; cases b; simp only at e1 e2 e3; rw [e1, e2, e3]
      · rfl
      · rw [eq_of_nbeq h]
      · rfl
      · rfl
      · simp only [Bool.and_eq_true] at h
        rw [eq_of_nbeq h.1, ih1 _ _ h.2]
      · simp only [Bool.and_eq_true] at h
        obtain ⟨⟨h1, h2⟩, h3⟩ := h
        rw [eq_of_nbeq h1, Array.ext' (ih2 _ _ h2), Array.ext' (ih2 _ _ h3)]
      · simp only [Bool.and_eq_true] at h
        obtain ⟨⟨h1, h2⟩, h3⟩ := h
        rw [eq_of_nbeq h1, Array.ext' (ih2 _ _ h2), Array.ext' (ih2 _ _ h3)]
      · rw [Array.ext' (ih2 _ _ h)]
      · rw [Array.ext' (ih2 _ _ h)]
      · cases h
    · intro xs ys h
      cases xs with
      | nil =>
        cases ys with
        | nil => rfl
        | cons y ys => simp [veqL] at h
      | cons x xs =>
        cases ys with
        | nil => simp [veqL] at h
        | cons y ys =>
          simp only [veqL, Bool.and_eq_true] at h
          rw [ih1 _ _ h.1, ih2 _ _ h.2]

theorem veq_eq {x y : Value} (h : veq x y = true) : x = y := (veq_both 1000).1 x y h

theorem memN_of_mem {n : Nat} : ∀ {ms : List Nat}, n ∈ ms → memN n ms = true := by
  intro ms
  induction ms with
  | nil => intro h; cases h
  | cons m ms ih =>
    intro h
    unfold memN
    cases hb : Nat.beq n m with
    | true => rfl
    | false =>
      rcases List.mem_cons.1 h with h | h
      · rw [nbeq_true h] at hb; cases hb
      · exact ih h

theorem recheckL_mem {again : List Nat} {s : St} : ∀ {log : List Seen}, recheckL again s log = true → ∀ r ∈ log, r.at_ ∈ again → readsSame s r = true := by
  intro log
  induction log with
  | nil => intro _ r hr; cases hr
  | cons x log ih =>
    intro h r hr hm
    unfold recheckL at h
    rcases List.mem_cons.1 hr with rfl | hr
    · rw [memN_of_mem hm, cond_true] at h
      cases hb : readsSame s r with
      | true => rfl
      | false => rw [hb] at h; cases h
    · cases hb : memN x.at_ again with
      | false => rw [hb] at h; exact ih h r hr hm
      | true =>
        rw [hb, cond_true] at h
        cases hb2 : readsSame s x with
        | false => rw [hb2] at h; cases h
        | true => rw [hb2] at h; exact ih h r hr hm

theorem recheck_mem {again : List Nat} {s : St} {log : List Seen} (h : recheck again s log = true) {r : Seen} (hr : r ∈ log) (hm : r.at_ ∈ again) : readsSame s r = true := by
  cases again with
  | nil => cases hm
  | cons a as => exact recheckL_mem (again := a :: as) h r hr hm

theorem readsSame_eq {s : St} {r : Seen} (h : readsSame s r = true) : ∃ s', r.f r.tm s = some (r.v, s') := by
  unfold readsSame at h
  cases hp : r.f r.tm s with
  | none => rw [hp] at h; cases h
  | some p =>
    rw [hp] at h
    obtain ⟨v, s'⟩ := p
    simp only at h
    rw [veq_eq h]
    exact ⟨s', rfl⟩

end Go.AI

/-! The abstract interpreter: regions that draw their order (13): a hard operation, here and on the machine. -/
namespace Go.AI
open Go.RowKit

section
variable {S : Site} {ty : Types} {D : Nat → Prop} {h : Here} {μ : Mu} {a : Act} {w : World}

/-- An operation has been run here and on the machine. -/
theorem Inv.both (hReg : RegOk ty S.N S.ops S.l) (hI : Inv S D h μ a w) {i : Nat} {is : List Nat} {al : List AO} (hk : KappaR S.l (Region.before S.ops) i is h.done) (harr : arrange S.l (Region.before S.ops) is (h.done ||| 2 ^ i) = some al)
    {o : Oper} (ho : S.ops[i]? = some o) (hr : ∀ e ∈ o.after, Region.binds .any e = true → D e.on) {d' : List Deferred} {s' : St} {v : Value}
    (hrun : drawnV S.C S.rd S.all al h.log (put ⟨h.fr.tm, d'⟩ o.dst v) s' = some S.q) {μ' : Mu} {a' : Act} {w' : World} (hR : Rel S.LR S.B0 μ' s' w') (hkept : Kept S.B0 μ h.s w μ' s' w') (hfr : FrR μ' S.N (put ⟨storeOf S D h a, d'⟩ o.dst v) a')
    (hpend : ∀ j o2 a2, h.K j → ¬ D j → S.ops[j]? = some o2 → S.l[j]? = some a2 → PendF S.P μ h.s o2 a2 (h.tmc j) (h.vals j) (h.ids j) → (∀ f, a2.op = .op .reads f → wanted (h.tmc j) a2.guard = some true → (⟨j, f, h.tmc j, h.vals j⟩ : Seen) ∈ h.log) →
      PendF S.P μ' s' o2 a2 (h.tmc j) (h.vals j) (h.ids j)) :
    Inv S (fun x => D x ∨ x = i) (h.next i is al h.log (put ⟨h.fr.tm, d'⟩ o.dst v) s' v none) μ' a' w' := by
  have hnK : ¬ h.K i := fun x => by have := hk.new; unfold Here.K at x; rw [x] at this; cases this
  have hlen := (region_get hReg.comp).1
  have hlt : i < S.ops.size := by have := hk.lt; omega
  have hdst : dstOf S.ops i = o.dst := by unfold dstOf; rw [ho]; rfl
  have hnD : ¬ D i := fun x => hnK (hI.sub i x)
  refine ⟨hk.rest, harr, hrun, ?_, ?_, ?_, ?_, ?_, ?_, ?_, ?_, ?_, hR, hI.kept.trans hkept, hI.low, Nat.le_trans hI.lown hkept.next, ?_, ?_, ?_, hfr.size⟩
  · intro t
    have e1 : gv S.ops S.g0 (upd h.vals i v) (h.next i is al h.log (put ⟨h.fr.tm, d'⟩ o.dst v) s' v none).K S.ops.size t = gv S.ops S.g0 (upd h.vals i v) (fun x => h.K x ∨ x = i) S.ops.size t :=
      gv_congr fun j _ _ => ⟨next_K h i is al h.log _ s' v none j, fun _ => rfl⟩
    show (put ⟨h.fr.tm, d'⟩ o.dst v).tm.get t = gv S.ops S.g0 (upd h.vals i v) _ S.ops.size t
    rw [e1, gv_add hlt (fun k hkk hik hdk => no_later hReg.tmps ho (fun j hj hjl x hx => hI.closedK j hj hjl x hx) hnK hkk hik hdk), hdst, upd_same, gv_upd hnK, ← hI.canon t]
    cases hod : o.dst with
    | none => rw [if_neg (by simp)]; rfl
    | some d =>
      show (h.fr.tm.set d v).get t = _
      rw [Trie.get_set]
      by_cases htd : t = d
      · subst htd; rw [if_pos rfl, if_pos rfl]
      · rw [if_neg htd, if_neg (by simpa [eq_comm] using htd)]
  · intro j hj hjl x hx
    rw [next_K] at hj ⊢
    rcases hj with hj | rfl
    · exact .inl (hI.closedK j hj hjl x hx)
    · exact .inl (hk.before x hx)
  · rintro j (hj | rfl)
    · rw [next_K]; exact .inl (hI.sub j hj)
    · rw [next_K]; exact .inr rfl
  · intro j hj
    rw [next_K] at hj
    rcases hj with hj | rfl
    · exact hI.lt j hj
    · exact hlt
  · intro k ok hk' hDk e he hb
    rcases hDk with hDk | rfl
    · exact .inl (hI.closed k ok hk' hDk e he hb)
    · rw [ho] at hk'; cases hk'; exact .inl (hr e he hb)
  · intro j hj hjh
    rw [next_K] at hj
    rcases hj with hj | rfl
    · exact .inl (hI.hardD j hj hjh)
    · exact .inr rfl
  · intro j hj hjD
    rw [next_K] at hj
    have hji : j ≠ i := fun x => hjD (.inr x)
    have hjK : h.K j := hj.resolve_right hji
    have hjD' : ¬ D j := fun x => hjD (.inl x)
    obtain ⟨o2, a2, Kj, g1, g2, g3, g4, g5, g6, g7, g8, g9⟩ := hI.past j hjK hjD'
    refine ⟨o2, a2, Kj, g1, g2, g3, g4, g5, fun x hx => by rw [next_K]; exact .inl (g6 x hx), ?_, ?_, ?_⟩
    · intro t
      show (upd h.tmc i _ j).get t = gv S.ops S.g0 (upd h.vals i v) Kj S.ops.size t
      rw [upd_ne _ _ hji, gv_upd (fun x => hnK (g6 i x))]; exact g7 t
    · show PendF S.P μ' s' o2 a2 (upd h.tmc i _ j) (upd h.vals i v j) (upd h.ids i none j)
      rw [upd_ne _ _ hji, upd_ne _ _ hji, upd_ne _ _ hji]
      exact hpend j o2 a2 hjK hjD' g1 g2 g8 g9
    · intro f hf hw
      show (⟨j, f, upd h.tmc i _ j, upd h.vals i v j⟩ : Seen) ∈ h.log
      have hw' : wanted (upd h.tmc i (put ⟨h.fr.tm, d'⟩ o.dst v).tm j) a2.guard = some true := by
        rw [upd_ne _ _ hji]
        have : wanted (upd h.tmc i h.fr.tm j) a2.guard = some true := hw
        rw [upd_ne _ _ hji] at this
        exact this
      rw [upd_ne _ _ hji] at hw' ⊢
      rw [upd_ne _ _ hji]
      exact g9 f hf hw'
  · intro j j' k hj hj' hjk hjk'
    rw [next_K] at hj hj'
    have hjk : upd h.ids i none j = some k := hjk
    have hjk' : upd h.ids i none j' = some k := hjk'
    by_cases h1 : j = i
    · subst h1; rw [upd_same] at hjk; cases hjk
    · by_cases h2 : j' = i
      · subst h2; rw [upd_same] at hjk'; cases hjk'
      · rw [upd_ne _ _ h1] at hjk
        rw [upd_ne _ _ h2] at hjk'
        exact hI.idsInj j j' k (hj.resolve_right h1) (hj'.resolve_right h2) hjk hjk'
  · intro j k hj hjk
    rw [next_K] at hj
    have hjk : upd h.ids i none j = some k := hjk
    show S.low ≤ k ∧ k < s'.next
    by_cases h1 : j = i
    · subst h1; rw [upd_same] at hjk; cases hjk
    · rw [upd_ne _ _ h1] at hjk
      have := hI.idsIn j k (hj.resolve_right h1) hjk
      have := hkept.next
      omega
  · obtain ⟨lim, hg⟩ := hI.gok
    exact ⟨lim, hkept.ext _ _ hg⟩
  · intro t u hu
    have hu' : gv S.ops S.g0 (upd h.vals i v) (fun x => D x ∨ x = i) S.ops.size t = some u := hu
    rw [gv_add hlt (fun k hkk hik hdk => no_later hReg.tmps ho hI.closedD hnD hkk hik hdk), hdst, upd_same, gv_upd hnD] at hu'
    refine hfr.tr.2 t u ?_
    cases hod : o.dst with
    | none =>
      rw [hod, if_neg (by simp)] at hu'
      show (storeOf S D h a).get t = some u
      rw [hI.store_get]; exact hu'
    | some d =>
      rw [hod] at hu'
      show ((storeOf S D h a).set d v).get t = some u
      rw [Trie.get_set]
      by_cases htd : t = d
      · subst htd; rw [if_pos rfl] at hu' ⊢; exact hu'
      · rw [if_neg htd]
        rw [if_neg (by simpa [eq_comm] using htd)] at hu'
        rw [hI.store_get]; exact hu'
  · have := hfr.defs
    show DefsR μ' (put ⟨h.fr.tm, d'⟩ o.dst v).defers a'.defers
    cases hod : o.dst <;> (rw [hod] at this; exact this)

/-- A pending operation stays pending where memory goes on. -/
theorem PendF.kept {P : Program} {B0 : Nat} {s s' : St} {μ' : Mu} {w' : World} {o : Oper} {ao : AO} {tm : Trie Value} {v : Value} {id : Option Nat} (h : PendF P μ s o ao tm v id) (hk : Kept B0 μ s w μ' s' w')
    (hread : ∀ f, ao.op = .op .reads f → wanted tm ao.guard = some true → ∃ s2, f tm s' = some (v, s2)) : PendF P μ' s' o ao tm v id := by
  obtain ⟨wt, g1, g2, g3⟩ := h
  refine ⟨wt, g1, g2, fun hw => ?_⟩
  obtain ⟨k, f, e1, e2⟩ := g3 hw
  refine ⟨k, f, e1, ?_⟩
  rcases e2 with e2 | ⟨e2, ob, i, e3, e4, e5⟩ | ⟨e2, e3, e4⟩
  · exact .inl e2
  · exact .inr (.inl ⟨e2, ob, i, e3, e4, e5.kept hk⟩)
  · subst e3
    obtain ⟨s2, e5⟩ := hread f e1 (hw ▸ g1)
    obtain ⟨e6, _⟩ := e2 _ _ _ _ e5
    rw [e6] at e5
    exact .inr (.inr ⟨e2, rfl, e5⟩)

theorem hardDone_eq {all : List AO} {fr : Fr} {again : List Nat} {log : List Seen} {k : Fr → St → OptRan} {r : OptRan} {q : Ran} (h : hardDone all fr again log k r = some q) :
    ∃ p : Ran, r = some p ∧ ((p.1 = .normal ∧ recheck again p.2.2 log = true ∧ k p.2.1 p.2.2 = some q) ∨ ∃ v, p.1 = .panic v ∧ q = (.panic v, ⟨forget all fr.tm, fr.defers⟩, p.2.2)) := by
  unfold hardDone at h
  rw [optE_eq] at h
  obtain ⟨⟨e, fr', s'⟩, h1, h2⟩ := h
  refine ⟨_, h1, ?_⟩
  cases e with
  | normal =>
    simp only at h2
    have h2 : ifB (recheck again s' log) (k fr' s') none = some q := h2
    rw [ifB_eq] at h2
    exact .inl ⟨rfl, h2.1, h2.2⟩
  | exit id => cases h2
  | ret => cases h2
  | panic v => cases h2; exact .inr ⟨v, rfl, rfl⟩

/-- The head of what is to come is carried out here and on the machine. -/
theorem stepB (hReg : RegOk ty S.N S.ops S.l) (T : TyOk S.P ty) (hC : CallsOk S.LR S.B0 S.P S.C) (hall : ∀ (j : Nat) (o : Oper), S.ops[j]? = some o → ∃ o' ∈ S.all, o'.dst = o.dst) (hall2 : ∀ o' ∈ S.all, dstOk S.N o'.dst = true) {F : Fence} (hfe : FenceR μ S.rd F)
    (hI : Inv S D h μ a w) {i : Nat} {is : List Nat} (his : h.is = i :: is) (hh : hardAt S.l i = true) {o : Oper} (ho : S.ops[i]? = some o) (hr : ∀ e ∈ o.after, Region.binds .any e = true → D e.on) {X : Act → World → Prop}
    (hX : ∀ h' μ' a' w', Ext μ μ' → Inv S (fun x => D x ∨ x = i) h' μ' a' w' → X a' w') : wpOpIn F 0 S.P S.ops (PostR S.LR S.B0 S.N S.μ0 S.s0 S.w0 S.q) i X a w := by
  have hk := hI.kappa
  have harr := hI.arr
  rw [his] at hk harr
  have hk := kappa_cons hk
  obtain ⟨ao, os, h1, h2, h3⟩ := arrange_cons harr
  obtain ⟨o', ao', g1, g2, g3, g4, g5, g6, g7, g8⟩ := (region_get hReg.comp).2 i (by have := hk.lt; have := (region_get hReg.comp).1; omega)
  rw [ho] at g1; cases g1
  rw [h1] at g2; cases g2
  have hrun := hI.run
  rw [h3, drawnV_cons, optE_eq] at hrun
  obtain ⟨wt, e1, hrun⟩ := hrun
  simp only at e1 hrun
  have hok := compOp_ok T g4
  have hhk : hardK ao.op = true := by rw [← hardAt_eq h1]; exact hh
  have hnK : ¬ h.K i := fun x => by have := hk.new; unfold Here.K at x; rw [x] at this; cases this
  have hnD : ¬ D i := fun x => hnK (hI.sub i x)
  have hbefore : ∀ x, ((Region.before S.ops).getD i 0).testBit x = true → D x := fun x hx => before_ready hReg.edges hI.closed ho hr hx
  have hag : ∀ t ∈ namesOf S.ops o, h.fr.tm.get t = (storeOf S D h a).get t := by
    intro t ht
    rw [hI.canon, hI.store_get]
    exact gv_congr fun j _ hj => ⟨names_same hReg.tmps ho hk.before hbefore (fun j hj hjl x hx => hI.closedK j hj hjl x hx) hI.closedD hnK hnD ht hj, fun _ => rfl⟩
  unfold wpOpIn
  simp only [ho]
  have hw : wanted (storeOf S D h a) ao.guard = some wt := by rw [← wanted_of_names hag g3]; exact e1
  rw [wanted_ok g3 hI.store_tr hw]
  have hfr0 : FrR μ S.N ⟨storeOf S D h a, h.fr.defers⟩ a := ⟨hI.store_tr, hI.defs, hI.size⟩
  cases wt with
  | false =>
    simp only [Bool.false_eq_true, if_false]
    rw [ifB_false, g6] at hrun
    refine ⟨about_ok hfe o w a, hX _ μ _ w (.refl μ) (hI.both hReg hk h2 ho hr (d' := h.fr.defers) (s' := h.s) (v := Go.undef) hrun hI.rel (.refl _ _ _ _) (hfr0.skip g5) ?_)⟩
    intro j o2 a2 _ _ _ _ hp _; exact hp
  | true =>
    simp only [if_true]
    rw [ifB_true, hhk, ifB_true, g6] at hrun
    obtain ⟨p, p1, p2⟩ := hardDone_eq hrun
    have hloc := operV_loc g4 hok (agree_of_names hag) (d := h.fr.defers) p1
    rcases hloc with ⟨v, d', q1, q2⟩ | ⟨v, q1, q2⟩
    · refine oper_sound hC hok g5 hfe q2 hI.rel hfr0 ?_ ?_
      · intro μ' a' w' _ hR' hk' hfr'
        rcases p2 with ⟨_, p3, p4⟩ | ⟨v', p3, _⟩
        · have ep : p.2.1 = put ⟨h.fr.tm, d'⟩ o.dst v := by rw [q1]
          rw [ep] at p4
          refine hX _ μ' a' w' hk'.ext (hI.both hReg hk h2 ho hr p4 hR' hk' hfr' ?_)
          intro j o2 a2 hjK hjD hj1 hj2 hp hlog
          refine hp.kept hk' fun f hf hwt => ?_
          have hm := hlog f hf hwt
          have hjl := hI.lt j hjK
          have hnb : ((Region.before S.ops).getD i 0).testBit j = false := by
            cases hb : ((Region.before S.ops).getD i 0).testBit j with
            | false => rfl
            | true => exact absurd (hbefore j hb) hjD
          have hag2 := again_mem hh hj2 hjK hnb (by rw [hf]; rfl)
          exact readsSame_eq (recheck_mem p3 hm hag2)
        · rw [q1] at p3; cases p3
      · intro v2 v' μ' a' w' hn; cases hn
    · refine oper_sound hC hok g5 hfe q2 hI.rel hfr0 ?_ ?_
      · intro μ' a' w' hn; cases hn
      · intro v2 v' μ' a' w' hn hv hR' hk' hfr'
        cases hn
        rcases p2 with ⟨p3, _, _⟩ | ⟨v3, p3, p4⟩
        · rw [q1] at p3; cases p3
        · rw [q1] at p3; cases p3
          rw [p4]
          refine ⟨μ', hR', hI.kept.trans hk', ⟨⟨hfr'.tr.1, ?_⟩, hfr'.defs, hfr'.size⟩, .panic hv⟩
          intro t u hu
          rcases forget_get S.all _ t u hu with ⟨rfl, o2, m1, m2⟩ | ⟨m1, m2⟩
          · have hd := hall2 o2 m1
            rw [m2] at hd
            have hlt : t < S.N := by unfold dstOk at hd; rw [Nat.blt_eq] at hd; exact hd
            have := hfr'.size
            have hlt' : t < a'.tmps.size := by omega
            exact ⟨a'.tmps[t], by simp [hlt'], .unknown _⟩
          · refine hfr'.tr.2 t u ?_
            show (storeOf S D h a).get t = some u
            rw [hI.store_get, ← m2, hI.canon]
            refine gv_congr fun j _ hj => ?_
            unfold dstOf at hj
            cases hoj : S.ops[j]? with
            | none => rw [hoj] at hj; cases hj
            | some oj =>
              rw [hoj] at hj
              obtain ⟨o2, n1, n2⟩ := hall j oj hoj
              exact absurd (n2.trans hj) (m1 o2 n1)

end
end Go.AI

/-! The abstract interpreter: regions that draw their order (14): all of it. -/
namespace Go.AI
open Go.RowKit

/-- What is listed. -/
def DoneIn (listed : Array Bool) (j : Nat) : Prop := listed[j]? = some true

theorem doneIn_set {listed : Array Bool} {i : Nat} (h : i < listed.size) (x : Nat) : DoneIn (listed.setIfInBounds i true) x ↔ DoneIn listed x ∨ x = i := by
  unfold DoneIn
  by_cases hx : x = i
  · subst hx; simp [h]
  · rw [Array.getElem?_setIfInBounds_ne (Ne.symm hx)]; simp [hx]

theorem getD_done {listed : Array Bool} {j : Nat} : listed.getD j false = true ↔ DoneIn listed j := by
  unfold DoneIn
  simp only [Array.getD_eq_getD_getElem?]
  cases listed[j]? with
  | none => simp
  | some b => simp

theorem getD_not {listed : Array Bool} {j : Nat} (h : listed.getD j true = false) : listed[j]? = some false := by
  simp only [Array.getD_eq_getD_getElem?] at h
  cases hj : listed[j]? with
  | none => rw [hj] at h; simp at h
  | some b => rw [hj] at h; simp at h; rw [h]

section
variable {S : Site} {ty : Types} {D : Nat → Prop} {h : Here} {μ : Mu} {a : Act} {w : World}

theorem Inv.congr {D' : Nat → Prop} (hI : Inv S D h μ a w) (hD : ∀ x, D x ↔ D' x) : Inv S D' h μ a w := by
  have : D = D' := funext fun x => propext (hD x)
  rw [← this]; exact hI

/-- All is done. -/
theorem Inv.fin (hReg : RegOk ty S.N S.ops S.l) (hI : Inv S D h μ a w) (hall : ∀ j, j < S.ops.size → D j) : PostR S.LR S.B0 S.N S.μ0 S.s0 S.w0 S.q .normal a w := by
  have hlen := (region_get hReg.comp).1
  have his : h.is = [] := by
    cases his : h.is with
    | nil => rfl
    | cons i is =>
      have hk := hI.kappa
      rw [his] at hk
      have hk := kappa_cons hk
      have := hI.sub i (hall i (by have := hk.lt; omega))
      unfold Here.K at this
      rw [hk.new] at this
      cases this
  have harr := hI.arr
  rw [his] at harr
  have hal : h.al = [] := by unfold arrange at harr; injection harr with harr; exact harr.symm
  have hrun := hI.run
  rw [hal, drawnV_nil] at hrun
  injection hrun with hrun
  rw [← hrun]
  refine ⟨μ, hI.rel, hI.kept, ⟨⟨hI.gok, fun t v hv => hI.temps t v ?_⟩, hI.defs, hI.size⟩, .normal⟩
  show gv S.ops S.g0 h.vals D S.ops.size t = some v
  have hc := hI.canon t
  rw [← show _ = some v from hv, hc]
  refine (gv_congr fun j hj _ => ⟨⟨fun _ => hall j hj, fun _ => hI.sub j (hall j hj)⟩, fun _ => rfl⟩).symm

/-- Whatever may come next comes next. -/
theorem any_sound (hReg : RegOk ty S.N S.ops S.l) (T : TyOk S.P ty) (hC : CallsOk S.LR S.B0 S.P S.C) (hall : ∀ (j : Nat) (o : Oper), S.ops[j]? = some o → ∃ o' ∈ S.all, o'.dst = o.dst) (hall2 : ∀ o' ∈ S.all, dstOk S.N o'.dst = true) {F : Fence} :
    ∀ (fuel : Nat) (listed : Array Bool) (h : Here) (μ : Mu) (a : Act) (w : World), listed.size = S.ops.size → listed.toList.count false ≤ fuel → FenceR μ S.rd F → Inv S (DoneIn listed) h μ a w → Settled S h →
      wpAnyIn F 0 S.P .any S.ops (PostR S.LR S.B0 S.N S.μ0 S.s0 S.w0 S.q) fuel listed a w := by
  have hend : ∀ (listed : Array Bool) (h : Here) (μ : Mu) (a : Act) (w : World), listed.size = S.ops.size → Inv S (DoneIn listed) h μ a w → Region.ready .any S.ops listed = [] → PostR S.LR S.B0 S.N S.μ0 S.s0 S.w0 S.q .normal a w := by
    intro listed h μ a w hsz hI hrd
    refine hI.fin hReg fun j => ?_
    induction j using Nat.strongRecOn with
    | _ j ih =>
      intro hj
      have hjl : j < listed.size := by omega
      have hlj : listed[j]? = some listed[j] := by simp [hjl]
      cases hb : listed[j] with
      | true => show listed[j]? = some true; rw [hlj, hb]
      | false =>
        have : j ∈ Region.ready .any S.ops listed := by
          rw [mem_ready]
          refine ⟨by simp [hlj, hb], S.ops[j], by simp [hj], fun e he hbe => ?_⟩
          have := edgesOk_eq hReg.edges (j := j) (o := S.ops[j]) (by simp [hj]) he hbe
          exact getD_done.2 (ih e.on this (by omega))
        rw [hrd] at this; cases this
  intro fuel
  induction fuel with
  | zero =>
    intro listed h μ a w hsz hcnt hfe hI hset
    have hnil : Region.ready .any S.ops listed = [] := by
      cases hrd : Region.ready .any S.ops listed with
      | nil => rfl
      | cons j js =>
        have hm : j ∈ Region.ready .any S.ops listed := by rw [hrd]; simp
        rw [mem_ready] at hm
        have := getD_not hm.1
        have hmem : false ∈ listed.toList := by
          rw [List.mem_iff_getElem?]; exact ⟨j, by simpa using this⟩
        have := List.count_pos_iff.2 hmem
        omega
    exact ⟨hnil, hend listed h μ a w hsz hI hnil⟩
  | succ fuel ih =>
    intro listed h μ a w hsz hcnt hfe hI hset
    refine ⟨hend listed h μ a w hsz hI, fun i hi => ?_⟩
    rw [mem_ready] at hi
    obtain ⟨hnl, o, ho, hed⟩ := hi
    have hlj := getD_not hnl
    have hil : i < listed.size := (Array.getElem?_eq_some_iff.1 hlj).1
    have hnD : ¬ DoneIn listed i := by unfold DoneIn; rw [hlj]; simp
    have hr : ∀ e ∈ o.after, Region.binds .any e = true → DoneIn listed e.on := fun e he hb => getD_done.1 (hed e he hb)
    have hsz' : (listed.setIfInBounds i true).size = S.ops.size := by simpa using hsz
    have hcnt' : (listed.setIfInBounds i true).toList.count false ≤ fuel := by
      rw [Array.toList_setIfInBounds]
      have hil' : i < listed.toList.length := by simpa using hil
      rw [List.count_set hil']
      have : listed.toList[i] = false := by
        have := (Array.getElem?_eq_some_iff.1 hlj).2
        simpa using this
      rw [this]
      have hpos : 0 < listed.toList.count false := List.count_pos_iff.2 (by rw [List.mem_iff_getElem?]; exact ⟨i, by simpa using hlj⟩)
      have e1 : (if (false == false) = true then 1 else 0) = 1 := rfl
      have e2 : (if (true == false) = true then 1 else 0) = 0 := rfl
      rw [e1, e2]
      omega
    by_cases hK : h.K i
    · refine stepA hReg hfe hI ho hK hnD hr ?_
      intro μ' a' w' hx hI'
      exact ih _ h μ' a' w' hsz' hcnt' (hfe.mono hx) (hI'.congr fun x => (doneIn_set hil x).symm) hset
    · -- the head of what is to come
      rcases hset with his | ⟨i0, rest, his, hh0⟩
      · exfalso
        have hk := hI.kappa
        rw [his] at hk
        exact hK (kappa_nil hk (by have := (region_get hReg.comp).1; omega))
      · have hk := hI.kappa
        rw [his] at hk
        have hk := kappa_cons hk
        have hlen := (region_get hReg.comp).1
        have hnK0 : ¬ h.K i0 := fun x => by have := hk.new; unfold Here.K at x; rw [x] at this; cases this
        have hii : i = i0 := by
          rcases hk.hard hh0 i (by omega) with h1 | h1 | h1
          · exact h1
          · exact absurd h1 hK
          · exact absurd (hI.sub _ (before_ready hReg.edges hI.closed ho hr h1)) hnK0
        subst hii
        refine stepB hReg T hC hall hall2 hfe hI his hh0 ho hr ?_
        intro h' μ' a' w' hx hI'
        obtain ⟨h2, hI2, hs2⟩ := settle hReg T _ h' rfl hI'
        exact ih _ h2 μ' a' w' hsz' hcnt' (hfe.mono hx) (hI2.congr fun x => (doneIn_set hil x).symm) hs2

/-- The region's operations are those of the order. -/
theorem arrange_all {l : List AO} {bf : Array Nat} : ∀ {is : List Nat} {done : Nat} {al : List AO}, kappaOk l bf is done = true → arrange l bf is done = some al →
    (∀ (j : Nat) (o : AO), l[j]? = some o → done.testBit j = true ∨ ∃ o' ∈ al, o'.dst = o.dst) ∧ ∀ o' ∈ al, ∃ (j : Nat) (o : AO), l[j]? = some o ∧ o'.dst = o.dst := by
  intro is
  induction is with
  | nil =>
    intro done al hk ha
    unfold arrange at ha
    cases ha
    exact ⟨fun j o ho => .inl (kappa_nil hk (List.getElem?_eq_some_iff.1 ho).1), fun o' ho' => by cases ho'⟩
  | cons i is ih =>
    intro done al hk ha
    have hk := kappa_cons hk
    obtain ⟨o, os, h1, h2, rfl⟩ := arrange_cons ha
    obtain ⟨k1, k2⟩ := ih hk.rest h2
    constructor
    · intro j oj hj
      rcases k1 j oj hj with hd | ⟨o', m1, m2⟩
      · rw [bit_or] at hd
        rcases hd with hd | rfl
        · exact .inl hd
        · rw [h1] at hj; cases hj
          exact .inr ⟨_, List.mem_cons_self .., rfl⟩
      · exact .inr ⟨o', List.mem_cons_of_mem _ m1, m2⟩
    · intro o' ho'
      rcases List.mem_cons.1 ho' with rfl | ho'
      · exact ⟨i, o, h1, rfl⟩
      · exact k2 o' ho'

end

/-- Regions that draw their order. -/
theorem draw_ok {P : Program} {ty : Types} {LR : LoopOk} {B0 : Nat} {C : Calls'} (T : TyOk P ty) (hm : P.follows .mixedOrders = true) (hC : CallsOk LR B0 P C) : DrawS P ty LR B0 C := by
  intro N ops al hcd rd F μ hfe fr s q hrun a w hR hfr μ0 s0 w0 hk0 id
  unfold compDraw at hcd
  simp only [Option.bind_eq_bind, Option.bind_eq_some_iff] at hcd
  obtain ⟨l, hl, hcd⟩ := hcd
  split at hcd
  · rename_i hok
    simp only [Option.map_eq_some_iff] at hcd
    obtain ⟨al', harr, hal⟩ := hcd
    cases hal
    unfold drawOk at hok
    simp only [Bool.and_eq_true] at hok
    obtain ⟨⟨⟨⟨k1, k2⟩, k3⟩, k4⟩, k5⟩ := hok
    have hReg : RegOk ty N ops l := ⟨hl, k1, k2, k3, k4⟩
    obtain ⟨hlen, hget⟩ := region_get hl
    obtain ⟨m1, m2⟩ := arrange_all k5 harr
    refine wpIn_region_any hm ?_
    let S : Site := ⟨P, LR, B0, N, C, ops, l, rd, fun t => fr.tm.get t, al, q, μ0, s0, w0, s.next⟩
    let h0 : Here := ⟨kappaGo l (Region.before ops) l.length 0, 0, al, [], fr, s, fun _ => Go.undef, fun _ => .leaf, fun _ => none⟩
    have hK0 : ∀ j, ¬ h0.K j := by
      intro j hj
      have hj : (0 : Nat).testBit j = true := hj
      simp at hj
    have hgv : ∀ (D : Nat → Prop), (∀ j, ¬ D j) → ∀ n t, gv ops (fun t => fr.tm.get t) (fun _ => Go.undef) D n t = fr.tm.get t := by
      intro D hD n
      induction n with
      | zero => intro t; rfl
      | succ n ih => intro t; simp only [gv]; rw [if_neg (fun x => hD n x.1)]; exact ih t
    have hD0 : ∀ j, ¬ DoneIn (Array.replicate ops.size false) j := by
      intro j hj
      unfold DoneIn at hj
      rw [Array.getElem?_replicate] at hj
      split at hj <;> cases hj
    have hI0 : Inv S (DoneIn (Array.replicate ops.size false)) h0 μ a w.drew := by
      refine ⟨k5, harr, hrun, fun t => (hgv _ hK0 _ t).symm, fun j hj => absurd hj (hK0 j), fun j hj => absurd hj (hD0 j), fun j hj => absurd hj (hK0 j), fun j o _ hj => absurd hj (hD0 j), fun j hj => absurd hj (hK0 j), fun j hj => absurd hj (hK0 j),
        fun j _ _ hj => absurd hj (hK0 j), fun j _ hj => absurd hj (hK0 j), hR.drew, hk0.trans .draw, hk0.next, Nat.le_refl _, hfr.tr.1, ?_, hfr.defs, hfr.size⟩
      intro t v hv
      have hv' : gv ops (fun t => fr.tm.get t) (fun _ => Go.undef) (DoneIn (Array.replicate ops.size false)) ops.size t = some v := hv
      rw [hgv _ hD0] at hv'
      exact hfr.tr.2 t v hv'
    obtain ⟨h1, hI1, hs1⟩ := settle hReg T _ h0 rfl hI0
    refine any_sound (S := S) hReg T hC ?_ ?_ ops.size (Array.replicate ops.size false) h1 μ a w.drew (by simp; rfl) ?_ hfe hI1 hs1
    · intro j o ho
      have hj : j < ops.size := (Array.getElem?_eq_some_iff.1 ho).1
      obtain ⟨o2, ao, g1, g2, _, _, _, g6, _⟩ := hget j hj
      have g1' : S.ops[j]? = some o2 := g1
      rw [ho] at g1'; cases g1'
      rcases m1 j ao g2 with hd | ⟨o', n1, n2⟩
      · simp at hd
      · exact ⟨o', n1, n2.trans g6⟩
    · intro o' ho'
      obtain ⟨j, ao, n1, n2⟩ := m2 o' ho'
      have hj : j < ops.size := by have := (List.getElem?_eq_some_iff.1 n1).1; omega
      obtain ⟨o2, ao2, g1, g2, _, _, g5, g6, _⟩ := hget j hj
      rw [n1] at g2; cases g2
      rw [n2, g6]; exact g5
    · simp
  · cases hcd

end Go.AI

/-! The abstract interpreter: all of it: where it comes to an answer, the program does. -/
namespace Go.AI
open Go.RowKit

variable {P : Program} {ty : Types} {E : Env} {B0 : Nat}

theorem exec_ok (T : TyOk P ty) (hm : P.follows .mixedOrders = true) (hE : EnvOk P ty E B0) (k : Nat) : CodeOk P ty E B0 (exec E k) := by
  induction k using Nat.strongRecOn with
  | _ k ih =>
    cases k with
    | zero =>
      intro rd c fr s q h
      rw [exec_zero] at h
      cases h
    | succ k =>
      have hk := ih k (Nat.lt_succ_self k)
      have hC : CallsOk (LoopLR ty E) B0 P (calls E (exec E k)) := calls_ok T hE hk (defer_ok T hE hk)
      rw [exec_succ]
      exact code_step T hC (draw_ok T hm hC) fun j hj => ih j (Nat.lt_succ_of_le hj)

/-- A call of a function of the program. -/
theorem call_ok (T : TyOk P ty) (hm : P.follows .mixedOrders = true) (hE : EnvOk P ty E B0) {k : Nat} {f : FuncId} {args : List Value} {s : St} {r : CRes × St} (h : call E k f args s = some r)
    {μ : Mu} {w : World} {args' : List Value} (hR : Rel (LoopLR ty E) B0 μ s w) (hG : GOk μ) (hv : VRs μ args args') :
    CallsIn Fence.wide 0 P f args'.toArray w (CallR (LoopLR ty E) B0 μ s w r) :=
  (fn_sound T hE (exec_ok T hm hE k) (defer_ok T hE (exec_ok T hm hE k)) h hR hG hv).1

end Go.AI

/-! The abstract interpreter: what is known of the types of a program. -/
namespace Go.AI
open Go.RowKit

/-- How many integers a struct's fields are, one behind the other. -/
noncomputable def flatFields (g sz : TypeId → Option Nat) (fs : List Field) : Nat → Option Nat :=
  List.rec (motive := fun _ => Nat → Option Nat) (fun off => some off) (fun fd _ ih off => if fd.name = "_" then none else ifB (Nat.beq fd.offset off) (optE (g fd.type) none fun m => optE (sz fd.type) none fun k => ifB (Nat.beq k m) (ih (off + m)) none) none) fs

theorem flatFields_nil (g sz : TypeId → Option Nat) (off : Nat) : flatFields g sz [] off = some off := rfl
theorem flatFields_cons (g sz : TypeId → Option Nat) (fd : Field) (fs : List Field) (off : Nat) : flatFields g sz (fd :: fs) off = if fd.name = "_" then none else ifB (Nat.beq fd.offset off) (optE (g fd.type) none fun m => optE (sz fd.type) none fun k => ifB (Nat.beq k m) (flatFields g sz fs (off + m)) none) none := rfl

noncomputable def sizeIn (P : Program) (t : TypeId) : Option Nat := (P.info? t).map (·.size)

/-- How many integers a type is, if it is nothing but integers. -/
noncomputable def flatInts (P : Program) : Nat → TypeId → Option Nat
  | 0, _ => none
  | f + 1, t => match P.underlying t with
    | some (.int _) => some 1
    | some (.struct fs) => if P.stoodInHeld t then none else flatFields (flatInts P f) (sizeIn P) fs.toList 0
    | some (.array n e) => optE (flatInts P f e) none fun m => optE (sizeIn P e) none fun k => ifB (Nat.beq k m) (some (n * m)) none
    | _ => none

theorem flatFields_le {g sz : TypeId → Option Nat} : ∀ {fs : List Field} {off n : Nat}, flatFields g sz fs off = some n → off ≤ n := by
  intro fs
  induction fs with
  | nil => intro off n h; rw [flatFields_nil] at h; cases h; exact Nat.le_refl _
  | cons fd fs ih =>
    intro off n h
    rw [flatFields_cons] at h
    split at h
    · cases h
    · rw [ifB_eq] at h
      obtain ⟨_, h⟩ := h
      rw [optE_eq] at h
      obtain ⟨m, _, h⟩ := h
      rw [optE_eq] at h
      obtain ⟨k, _, h⟩ := h
      rw [ifB_eq] at h
      have := ih h.2
      omega

section
variable {P : Program}

theorem intCells_append {xs xs' ys ys' : List Value} {r : Bool} (hl : xs.length = ys.length) (h : intCells (xs ++ xs') (ys ++ ys') = some r) : ∃ r1 r2, intCells xs ys = some r1 ∧ intCells xs' ys' = some r2 ∧ r = (r1 && r2) := by
  induction xs generalizing ys r with
  | nil =>
    cases ys with
    | nil => exact ⟨true, r, rfl, h, by simp⟩
    | cons y ys => simp at hl
  | cons x xs ih =>
    cases ys with
    | nil => simp at hl
    | cons y ys =>
      simp only [List.cons_append, intCells] at h ⊢
      cases x <;> simp only at h <;> try (cases h; done)
      cases y <;> simp only at h <;> try (cases h; done)
      rename_i k a k' b
      cases hk : kEq k k' with
      | false => rw [hk] at h; cases h
      | true =>
        rw [hk, cond_true] at h
        cases hi : intCells (xs ++ xs') (ys ++ ys') with
        | none => rw [hi] at h; cases h
        | some q =>
          rw [hi] at h
          simp only [Option.some.injEq] at h
          obtain ⟨r1, r2, h1, h2, h3⟩ := ih (by simpa using hl) hi
          refine ⟨iEq a b && r1, r2, by simp [h1, hk], h2, ?_⟩
          rw [← h, h3, Bool.and_assoc]

theorem intCells_one {x y : Value} {r : Bool} (h : intCells [x] [y] = some r) : ∃ k a b, x = .int k a ∧ y = .int k b ∧ r = (a == b) := by
  simp only [intCells] at h
  cases x <;> simp only at h <;> try (cases h; done)
  cases y <;> simp only at h <;> try (cases h; done)
  rename_i k a k' b
  cases hk : kEq k k' with
  | false => rw [hk] at h; cases h
  | true =>
    rw [hk, cond_true] at h
    cases h
    obtain rfl := kEq_eq hk
    exact ⟨k, a, b, rfl, rfl, by rw [iEq_eq, Bool.and_true]⟩

/-- The cells of an array from a place on. -/
def cut (cs : Array Value) (off n : Nat) : List Value := (cs.toList.drop off).take n

theorem cut_add (cs : Array Value) (off m n : Nat) : cut cs off (m + n) = cut cs off m ++ cut cs (off + m) n := by
  unfold cut
  rw [List.take_add, List.drop_drop]
theorem cut_length {cs : Array Value} {off n : Nat} (h : off + n ≤ cs.size) : (cut cs off n).length = n := by
  unfold cut
  simp; omega
theorem cut_one {cs : Array Value} {off : Nat} (h : off < cs.size) : cut cs off 1 = [cs[off]] := by
  unfold cut
  rw [List.drop_eq_getElem_cons (by simpa using h)]
  simp

theorem extract_toList (cs : Array Value) (off n : Nat) : (cs.extract off (off + n)).toList = cut cs off n := by
  unfold cut
  simp [List.extract_eq_take_drop]

/-- What stands at a place, of a type of integers. -/
theorem part_ints {f t n : Nat} (h : flatInts P f t = some n) (hs : sizeIn P t = some n) {cs : Array Value} {off : Nat} (hl : off + n ≤ cs.size) (w : World) :
    ((∃ k, P.underlying t = some (.int k) ∧ n = 1 ∧ ∃ hlt : off < cs.size, (part t cs off).run P w = .ok cs[off] w) ∨ ((∃ d, P.underlying t = some d ∧ ((∃ fs, d = .struct fs) ∨ ∃ m e, d = .array m e)) ∧ (part t cs off).run P w = .ok (.agg (cs.extract off (off + n))) w)) := by
  cases f with
  | zero => cases h
  | succ f =>
    have hsz : (sizeOf t).run P w = .ok n w := by
      unfold sizeIn at hs
      cases hi : P.info? t with
      | none => rw [hi] at hs; cases hs
      | some inf => rw [hi] at hs; simp at hs; simp [sizeOf, typeInfo, hi, hs]
    unfold flatInts at h
    cases hu : P.underlying t with
    | none => rw [hu] at h; cases h
    | some d =>
      rw [hu] at h
      cases d <;> simp only at h <;> try (cases h; done)
      · cases h
        refine .inl ⟨_, rfl, rfl, by omega, ?_⟩
        have hlt : off < cs.size := by omega
        simp [part, isAgg, run_underlying hu, hlt]
      · right
        refine ⟨⟨_, rfl, .inr ⟨_, _, rfl⟩⟩, ?_⟩
        simp [part, isAgg, run_underlying hu, hsz]
      · right
        refine ⟨⟨_, rfl, .inl ⟨_, rfl⟩⟩, ?_⟩
        simp [part, isAgg, run_underlying hu, hsz]

end
end Go.AI

/-! The abstract interpreter: types of integers alone: equality, and keys of maps. -/
namespace Go.AI
open Go.RowKit

section
variable {P : Program}

theorem cut_whole (cs : Array Value) : cut cs 0 cs.size = cs.toList := by
  unfold cut
  simp [← Array.length_toList]

theorem cut_extract (cs : Array Value) {off n j m : Nat} (h : j + m ≤ n)  : cut (cs.extract off (off + n)) j m = cut cs (off + j) m := by
  have e : (cs.extract off (off + n)).toList = cut cs off n := extract_toList cs off n
  show ((cs.extract off (off + n)).toList.drop j).take m = _
  rw [e]
  unfold cut
  rw [List.drop_take, List.drop_drop, List.take_take]
  congr 1
  omega

/-- What is said of a type: equality of what stands at a place. -/
def EqAt (P : Program) (d t n : Nat) : Prop := ∀ (xs ys : Array Value) (off : Nat) (r : Bool) (w : World), off + n ≤ xs.size → off + n ≤ ys.size → intCells (cut xs off n) (cut ys off n) = some r →
  ∃ a b, (part t xs off).run P w = .ok a w ∧ (part t ys off).run P w = .ok b w ∧ (Op.equalIn d t a b).run P w = .ok r w

theorem eqFields_flat {g : TypeId → Option Nat} {d : Nat} (hg : ∀ t n, g t = some n → sizeIn P t = some n → EqAt P d t n) : ∀ (fs : List Field) (off n : Nat), flatFields g (sizeIn P) fs off = some n → ∀ (xs ys : Array Value) (r : Bool) (w : World), n ≤ xs.size → n ≤ ys.size →
    intCells (cut xs off (n - off)) (cut ys off (n - off)) = some r → (Op.eqFields d xs ys fs).run P w = .ok r w := by
  intro fs
  induction fs with
  | nil =>
    intro off n h xs ys r w hx hy hc
    rw [flatFields_nil] at h; cases h
    simp only [Nat.sub_self] at hc
    unfold cut at hc
    simp [intCells] at hc
    subst hc
    simp [Op.eqFields]
  | cons fd fs ih =>
    intro off n h xs ys r w hx hy hc
    rw [flatFields_cons] at h
    split at h
    · cases h
    · rename_i hname
      rw [ifB_eq] at h
      obtain ⟨hoff, h⟩ := h
      rw [optE_eq] at h
      obtain ⟨m, hm, h⟩ := h
      rw [optE_eq] at h
      obtain ⟨k, hk, h⟩ := h
      rw [ifB_eq] at h
      obtain ⟨hkm, h⟩ := h
      obtain rfl := eq_of_nbeq hkm
      have hoff := eq_of_nbeq hoff
      have hle := flatFields_le h
      have e : n - off = k + (n - (off + k)) := by omega
      rw [e, cut_add, cut_add] at hc
      obtain ⟨r1, r2, h1, h2, h3⟩ := intCells_append (by rw [cut_length (by omega), cut_length (by omega)]) hc
      obtain ⟨a, b, q1, q2, q3⟩ := hg _ _ hm hk xs ys off r1 w (by omega) (by omega) h1
      simp only [Op.eqFields, if_pos hname, hoff, Sem.run_bind, q1, q2, q3, Result.andThen_ok]
      cases r1 with
      | false => simp [h3]
      | true => simp only [Bool.not_true, Bool.false_eq_true, if_false]; rw [h3, Bool.true_and]; exact ih _ _ h xs ys r2 w hx hy h2

theorem run_equalIn_array (d t n e m : Nat) (ht : P.underlying t = some (.array n e)) (hs : sizeIn P e = some m) (hE : EqAt P d e m) (xs ys : Array Value) (r : Bool) (w : World) (hx : n * m ≤ xs.size) (hy : n * m ≤ ys.size)
    (hc : intCells (cut xs 0 (n * m)) (cut ys 0 (n * m)) = some r) : (Op.equalIn (d + 1) t (.agg xs) (.agg ys)).run P w = .ok r w := by
  have hsz : ∀ w, (sizeOf e).run P w = .ok m w := by
    intro w
    unfold sizeIn at hs
    cases hi : P.info? e with
    | none => rw [hi] at hs; cases hs
    | some inf => rw [hi] at hs; simp at hs; simp [sizeOf, typeInfo, hi, hs]
  simp only [Op.equalIn, Sem.run_bind, run_underlying ht, Result.andThen_ok, hsz]
  simp only [Std.Legacy.Range.forIn_eq_forIn_range', Std.Legacy.Range.size]
  have key : ∀ (c i : Nat) (r : Bool), i + c = n → intCells (cut xs (i * m) (c * m)) (cut ys (i * m) (c * m)) = some r → 
      (forIn (m := Sem) (List.range' i c 1) ((none, ()) : Option Bool × Unit) fun i _ => (do
        if (!(← Op.equalIn d e (← part e xs (i * m)) (← part e ys (i * m)))) = true then pure (ForInStep.done (some false, ())) else pure (ForInStep.yield (none, ())))).run P w = .ok (if r then none else some false, ()) w := by
    intro c
    induction c with
    | zero =>
      intro i r hi hc
      unfold cut at hc
      simp [intCells] at hc
      subst hc
      simp
    | succ c ih =>
      intro i r hi hc
      have e1 : (c + 1) * m = m + c * m := by rw [Nat.succ_mul]; omega
      have hb : i * m + m + c * m = n * m := by rw [← hi]; simp only [Nat.add_mul, Nat.succ_mul]; omega
      have hb2 : (i + 1) * m = i * m + m := by rw [Nat.succ_mul]
      rw [e1, cut_add, cut_add] at hc
      obtain ⟨r1, r2, h1, h2, h3⟩ := intCells_append (by rw [cut_length (by omega), cut_length (by omega)]) hc
      obtain ⟨a, b, q1, q2, q3⟩ := hE xs ys (i * m) r1 w (by omega) (by omega) h1
      simp only [List.range'_succ, List.forIn_cons, Sem.run_bind, q1, q2, q3, Result.andThen_ok]
      cases r1 with
      | false => simp [h3]
      | true =>
        simp only [Bool.not_true, Bool.false_eq_true, if_false, Sem.run_pure, Result.andThen_ok]
        rw [h3, Bool.true_and]
        exact ih (i + 1) r2 (by omega) (by rw [hb2]; exact h2)
  have := key n 0 r (by omega) (by simpa using hc)
  rw [show n - 0 + 1 - 1 = n by omega, Nat.div_one, this]
  cases r <;> simp

theorem cut_le (cs : Array Value) {n : Nat} (h : n = cs.size) : cut cs 0 n = cs.toList := by subst h; exact cut_whole cs

/-- Types of integers alone: equality. -/
theorem flat_equal : ∀ (f t n d : Nat), flatInts P f t = some n → sizeIn P t = some n → f ≤ d → EqAt P d t n := by
  intro f
  induction f with
  | zero => intro t n d h; cases h
  | succ f ih =>
    intro t n d h hs hd xs ys off r w hx hy hc
    obtain ⟨d, rfl⟩ : ∃ d', d = d' + 1 := ⟨d - 1, by omega⟩
    rcases part_ints h hs hx w with ⟨k, hu, rfl, hlx, hpx⟩ | ⟨⟨D, hu, hD⟩, hpx⟩
    · rcases part_ints h hs hy w with ⟨k', hu', _, hly, hpy⟩ | ⟨⟨D, hu', hD⟩, hpy⟩
      · rw [cut_one hlx, cut_one hly] at hc
        obtain ⟨k2, a, b, e1, e2, e3⟩ := intCells_one hc
        refine ⟨_, _, hpx, hpy, ?_⟩
        rw [e1, e2, e3]
        exact run_equalIn_int w d t k2 k a b hu
      · rw [hu] at hu'; cases hu'
        rcases hD with ⟨fs, hD⟩ | ⟨m, e, hD⟩ <;> cases hD
    · rcases part_ints h hs hy w with ⟨k', hu', _, hly, hpy⟩ | ⟨_, hpy⟩
      · rw [hu] at hu'; cases hu'
        rcases hD with ⟨fs, hD⟩ | ⟨m, e, hD⟩ <;> cases hD
      · refine ⟨_, _, hpx, hpy, ?_⟩
        have hsx : (xs.extract off (off + n)).size = n := by simp; omega
        have hsy : (ys.extract off (off + n)).size = n := by simp; omega
        have hc' : intCells (cut (xs.extract off (off + n)) 0 n) (cut (ys.extract off (off + n)) 0 n) = some r := by
          rw [cut_extract _ (by omega), cut_extract _ (by omega)]; exact hc
        unfold flatInts at h
        rw [hu] at h
        rcases hD with ⟨fs, rfl⟩ | ⟨m, e, rfl⟩
        · simp only at h
          split at h
          · cases h
          · rename_i hst
            have hfo : P.fieldsOf t = fs := by unfold Program.fieldsOf; rw [hu]
            have hst : P.stoodInHeld t = false := by simpa using hst
            rw [run_equalIn_struct w d t _ _ (by rw [hfo]; exact hu) hst, hfo]
            refine eqFields_flat (fun t' n' h1 h2 => ih t' n' d h1 h2 (by omega)) _ 0 n h _ _ r w (by omega) (by omega) ?_
            simpa using hc'
        · simp only at h
          rw [optE_eq] at h
          obtain ⟨q, h1, h⟩ := h
          rw [optE_eq] at h
          obtain ⟨k, h2, h⟩ := h
          rw [ifB_eq] at h
          obtain ⟨h3, h4⟩ := h
          obtain rfl := eq_of_nbeq h3
          cases h4
          exact run_equalIn_array d t m e k hu h2 (ih e k d h1 h2 (by omega)) _ _ r w (by omega) (by omega) hc'

theorem flatFields_guard {g : TypeId → Option Nat} {q : TypeId → Bool} (hg : ∀ t n, g t = some n → q t = false) : ∀ (fs : List Field) (off n : Nat), flatFields g (sizeIn P) fs off = some n → fs.any (fun f => f.name != "_" && q f.type) = false := by
  intro fs
  induction fs with
  | nil => intro off n _; rfl
  | cons fd fs ih =>
    intro off n h
    rw [flatFields_cons] at h
    split at h
    · cases h
    · rw [ifB_eq] at h
      obtain ⟨_, h⟩ := h
      rw [optE_eq] at h
      obtain ⟨m, hm, h⟩ := h
      rw [optE_eq] at h
      obtain ⟨k, _, h⟩ := h
      rw [ifB_eq] at h
      simp only [List.any_cons, ih _ _ h.2, Bool.or_false, hg _ _ hm, Bool.and_false]

theorem flat_guard : ∀ (f t n d : Nat), flatInts P f t = some n → f ≤ d → P.eqGuardType d t = false := by
  intro f
  induction f with
  | zero => intro t n d h; cases h
  | succ f ih =>
    intro t n d h hd
    obtain ⟨d, rfl⟩ : ∃ d', d = d' + 1 := ⟨d - 1, by omega⟩
    unfold flatInts at h
    unfold Program.eqGuardType
    cases hu : P.underlying t with
    | none => simp [hu] at h
    | some D =>
      simp only [hu] at h ⊢
      cases D <;> (try simp only at h) <;> try (cases h; done)
      · rfl
      · rw [optE_eq] at h
        obtain ⟨m, hm, _⟩ := h
        exact ih _ _ d hm (by omega)
      · split at h
        · cases h
        · simp only
          rw [← Array.any_toList]
          exact flatFields_guard (fun t n ht => ih t n d ht (by omega)) _ _ _ h

end
end Go.AI

/-! The abstract interpreter: types of integers alone as keys of maps; the types of a program. -/
namespace Go.AI
open Go.RowKit

section
variable {P : Program}

def KeyAt (P : Program) (b : Bool) (d t n : Nat) : Prop := ∀ (xs : Array Value) (off : Nat) (r : Bool) (w : World), off + n ≤ xs.size → intCells (cut xs off n) (cut xs off n) = some r →
  ∃ a, (part t xs off).run P w = .ok a w ∧ (Instr.checkKey b d t a).run P w = .ok () w

theorem keyFields {g : TypeId → Option Nat} {b : Bool} {d : Nat} (hg : ∀ t n, g t = some n → sizeIn P t = some n → KeyAt P b d t n) : ∀ (fs : List Field) (off n : Nat), flatFields g (sizeIn P) fs off = some n → ∀ (xs : Array Value) (r : Bool) (w : World), n ≤ xs.size →
    intCells (cut xs off (n - off)) (cut xs off (n - off)) = some r → (forIn (m := Sem) fs PUnit.unit fun f _ => (do
      if f.name ≠ "_" then
        Instr.checkKey b d f.type (← part f.type xs f.offset)
        pure (ForInStep.yield PUnit.unit)
      else pure (ForInStep.yield PUnit.unit))).run P w = .ok PUnit.unit w := by
  intro fs
  induction fs with
  | nil =>
    intro off n h xs r w hx hc
    simp
  | cons fd fs ih =>
    intro off n h xs r w hx hc
    rw [flatFields_cons] at h
    split at h
    · cases h
    · rename_i hname
      rw [ifB_eq] at h
      obtain ⟨hoff, h⟩ := h
      rw [optE_eq] at h
      obtain ⟨m, hm, h⟩ := h
      rw [optE_eq] at h
      obtain ⟨k, hk, h⟩ := h
      rw [ifB_eq] at h
      obtain ⟨hkm, h⟩ := h
      obtain rfl := eq_of_nbeq hkm
      have hoff := eq_of_nbeq hoff
      have hle := flatFields_le h
      have e : n - off = k + (n - (off + k)) := by omega
      rw [e, cut_add] at hc
      obtain ⟨r1, r2, h1, h2, h3⟩ := intCells_append rfl hc
      obtain ⟨a, q1, q2⟩ := hg _ _ hm hk xs off r1 w (by omega) h1
      have := ih _ _ h xs r2 w hx h2
      simp only [List.forIn_cons, if_pos hname, hoff, Sem.run_bind, q1, q2, Result.andThen_ok, Sem.run_pure]
      exact this

theorem flat_key (b : Bool) : ∀ (f t n d : Nat), flatInts P f t = some n → sizeIn P t = some n → f ≤ d → KeyAt P b d t n := by
  intro f
  induction f with
  | zero => intro t n d h; cases h
  | succ f ih =>
    intro t n d h hs hd xs off r w hx hc
    obtain ⟨d, rfl⟩ : ∃ d', d = d' + 1 := ⟨d - 1, by omega⟩
    rcases part_ints h hs hx w with ⟨k, hu, rfl, hlx, hpx⟩ | ⟨⟨D, hu, hD⟩, hpx⟩
    · rw [cut_one hlx] at hc
      obtain ⟨k2, a, _, e1, _, _⟩ := intCells_one hc
      refine ⟨_, hpx, ?_⟩
      rw [e1]
      simp [Instr.checkKey, run_underlying hu]
    · refine ⟨_, hpx, ?_⟩
      have hsx : (xs.extract off (off + n)).size = n := by simp; omega
      have hc' : intCells (cut (xs.extract off (off + n)) 0 n) (cut (xs.extract off (off + n)) 0 n) = some r := by
        rw [cut_extract _ (by omega)]; exact hc
      generalize xs.extract off (off + n) = zs at hsx hc'
      unfold flatInts at h
      rw [hu] at h
      rcases hD with ⟨fs, rfl⟩ | ⟨m, e, rfl⟩
      · simp only at h
        split at h
        · cases h
        · have := keyFields (b := b) (d := d) (fun t' n' h1 h2 => ih t' n' d h1 h2 (by omega)) _ 0 n h zs r w (by omega) (by simpa using hc')
          simp only [Instr.checkKey, Sem.run_bind, run_underlying hu, Result.andThen_ok]
          rw [← Array.forIn_toList]
          rw [this]
          simp
      · simp only at h
        rw [optE_eq] at h
        obtain ⟨q, h1, h⟩ := h
        rw [optE_eq] at h
        obtain ⟨k, h2, h⟩ := h
        rw [ifB_eq] at h
        obtain ⟨h3, h4⟩ := h
        obtain rfl := eq_of_nbeq h3
        cases h4
        have hsz : ∀ w, (sizeOf e).run P w = .ok k w := by
          intro w
          unfold sizeIn at h2
          cases hi : P.info? e with
          | none => rw [hi] at h2; cases h2
          | some inf => rw [hi] at h2; simp at h2; simp [sizeOf, typeInfo, hi, h2]
        simp only [Instr.checkKey, Sem.run_bind, run_underlying hu, Result.andThen_ok]
        simp only [Std.Legacy.Range.forIn_eq_forIn_range', Std.Legacy.Range.size]
        rw [show m - 0 + 1 - 1 = m by omega, Nat.div_one]
        have key : ∀ (c i : Nat) (r : Bool), i + c = m → intCells (cut zs (i * k) (c * k)) (cut zs (i * k) (c * k)) = some r →
            (forIn (m := Sem) (List.range' i c 1) PUnit.unit fun i _ => (do
              Instr.checkKey b d e (← part e zs (i * (← sizeOf e)))
              pure (ForInStep.yield PUnit.unit))).run P w = .ok PUnit.unit w := by
          intro c
          induction c with
          | zero => intro i r _ _; simp
          | succ c ihc =>
            intro i r hi hc
            have e1 : (c + 1) * k = k + c * k := by rw [Nat.succ_mul]; omega
            have hb : i * k + k + c * k = m * k := by rw [← hi]; simp only [Nat.add_mul, Nat.succ_mul]; omega
            have hb2 : (i + 1) * k = i * k + k := by rw [Nat.succ_mul]
            rw [e1, cut_add] at hc
            obtain ⟨r1, r2, g1, g2, _⟩ := intCells_append rfl hc
            obtain ⟨a, q1, q2⟩ := ih e k d h1 h2 (by omega) zs (i * k) r1 w (by omega) g1
            have := ihc (i + 1) r2 (by omega) (by rw [hb2]; exact g2)
            simp only [List.range'_succ, List.forIn_cons, Sem.run_bind, hsz, q1, q2, Result.andThen_ok, Sem.run_pure]
            exact this
        rw [key m 0 r (by omega) (by simpa using hc')]
        simp

/-! ## The types of a program -/

/-- What is known of a type. -/
noncomputable def tyAt (P : Program) (t : TypeId) : Option TI :=
  match P.underlying t with
  | some d => match P.info? t with
    | some inf => match inf.zero with
      | some z => some ⟨d, inf.size, inf.bytes, z, (match d with
        | .struct fs => fs.toList.map fun f => (f.offset, optE (sizeIn P f.type) 0 fun n => n)
        | _ => []), (match d with
        | .struct _ => optE (flatInts P 20 t) 0 fun n => n
        | .array _ _ => optE (flatInts P 20 t) 0 fun n => n
        | _ => 0)⟩
      | none => none
    | none => none
  | none => none

noncomputable def tyOf (P : Program) : Types := fun t => ifB (Nat.blt t P.types.size) (tyAt P t) none

/-- Every field's type is known. -/
noncomputable def fieldsKnown (P : Program) : Bool := (List.range P.types.size).all fun t =>
  match P.underlying t with
  | some (.struct fs) => fs.toList.all fun f => (sizeIn P f.type).isSome
  | _ => true

theorem tyOf_eq {t : TypeId} {i : TI} (h : tyOf P t = some i) : ∃ inf, P.underlying t = some i.desc ∧ P.info? t = some inf ∧ inf.size = i.size ∧ inf.bytes = i.bytes ∧ inf.zero = some i.zero ∧
    (∀ fs, i.desc = .struct fs → i.places = fs.toList.map fun f => (f.offset, optE (sizeIn P f.type) 0 fun n => n)) ∧
    (0 < i.ints → (i.ints = optE (flatInts P 20 t) 0 fun n => n) ∧ ((∃ fs, i.desc = .struct fs) ∨ ∃ m e, i.desc = .array m e)) := by
  unfold tyOf at h
  rw [ifB_eq] at h
  obtain ⟨_, h⟩ := h
  unfold tyAt at h
  cases h1 : P.underlying t with
  | none => rw [h1] at h; cases h
  | some d =>
    rw [h1] at h
    simp only at h
    cases h2 : P.info? t with
    | none => rw [h2] at h; cases h
    | some inf =>
      rw [h2] at h
      simp only at h
      cases h3 : inf.zero with
      | none => rw [h3] at h; cases h
      | some z =>
        rw [h3] at h
        simp only [Option.some.injEq] at h
        subst h
        refine ⟨inf, rfl, rfl, rfl, rfl, h3, fun fs hfs => by simp only at hfs; subst hfs; rfl, fun h0 => ?_⟩
        cases d <;> simp only at h0 <;> first
          | (exact absurd h0 (by omega))
          | exact ⟨rfl, .inl ⟨_, rfl⟩⟩
          | exact ⟨rfl, .inr ⟨_, _, rfl⟩⟩

theorem ints_flat {t : TypeId} {i : TI} (h : tyOf P t = some i) (h0 : 0 < i.ints) (hs : i.ints = i.size) : flatInts P 20 t = some i.ints ∧ sizeIn P t = some i.ints := by
  obtain ⟨inf, h1, h2, h3, _, _, _, h6⟩ := tyOf_eq h
  obtain ⟨h6, _⟩ := h6 h0
  constructor
  · cases hf : flatInts P 20 t with
    | none => rw [hf] at h6; simp at h6; omega
    | some n => rw [hf] at h6; simp at h6; rw [h6]
  · unfold sizeIn; rw [h2, hs, ← h3]; rfl

theorem part_whole {t : TypeId} {i : TI} (h : tyOf P t = some i) (h0 : 0 < i.ints) (hs : i.ints = i.size) (xs : Array Value) (hx : xs.size = i.ints) (w : World) : (part t xs 0).run P w = .ok (.agg xs) w := by
  obtain ⟨h1, h2⟩ := ints_flat h h0 hs
  obtain ⟨inf, hu, _, _, _, _, _, h6⟩ := tyOf_eq h
  rcases part_ints h1 h2 (cs := xs) (off := 0) (by omega) w with ⟨k, hk, _⟩ | ⟨_, hp⟩
  · rw [hu] at hk
    simp only [Option.some.injEq] at hk
    rcases (h6 h0).2 with ⟨fs, hd⟩ | ⟨m, e, hd⟩ <;> (rw [hk] at hd; cases hd)
  · rw [hp]
    congr 2
    apply Array.ext'
    rw [extract_toList, cut_le xs hx.symm]

/-- The types of a program: all that is asked. -/
theorem tyOk (hd : 20 ≤ P.depth) (hf : fieldsKnown P = true) : TyOk P (tyOf P) where
  und := fun t i h => let ⟨_, h1, _⟩ := tyOf_eq h; h1
  info := fun t i h => let ⟨inf, _, h2, h3, h4, h5, _⟩ := tyOf_eq h; ⟨inf, h2, h3, h4, h5⟩
  places := by
    intro t i fs h hfs
    obtain ⟨inf, h1, h2, h3, h4, h5, h6, _⟩ := tyOf_eq h
    have hall : fs.toList.all (fun f => (sizeIn P f.type).isSome) = true := by
      unfold fieldsKnown at hf
      rw [List.all_eq_true] at hf
      have hlt : t < P.types.size := by
        unfold tyOf at h
        rw [ifB_eq] at h
        have := h.1
        rw [Nat.blt_eq] at this; exact this
      have := hf t (by simp [hlt])
      rw [h1, hfs] at this
      exact this
    refine ⟨fs.toList.map fun f => optE (sizeIn P f.type) 0 fun n => n, ?_, by simp, ?_⟩
    · rw [h6 fs hfs]
      generalize fs.toList = l
      induction l with
      | nil => rfl
      | cons f l ih => simp [ih]
    · intro j f n hj hn
      have hn' : (fs.toList.map fun f => optE (sizeIn P f.type) 0 fun n => n)[j]? = some n := hn
      rw [List.getElem?_map] at hn'
      have hj' : fs.toList[j]? = some f := by simpa using hj
      rw [hj'] at hn'
      simp only [Option.map_some, Option.some.injEq] at hn'
      have := List.all_eq_true.1 hall f (List.mem_of_getElem? hj')
      cases hs : sizeIn P f.type with
      | none => rw [hs] at this; cases this
      | some m =>
        rw [hs] at hn'
        simp at hn'
        unfold sizeIn at hs
        cases hi : P.info? f.type with
        | none => rw [hi] at hs; cases hs
        | some inf2 => rw [hi] at hs; simp at hs; exact ⟨inf2, rfl, by omega⟩
  eqInts := by
    intro t i h h0 hs xs ys r w hx hy hc
    obtain ⟨h1, h2⟩ := ints_flat h h0 hs
    obtain ⟨inf, hu, _⟩ := tyOf_eq h
    have hc' : intCells (cut xs 0 i.ints) (cut ys 0 i.ints) = some r := by rw [cut_le xs hx.symm, cut_le ys hy.symm]; exact hc
    obtain ⟨a, b, q1, q2, q3⟩ := flat_equal 20 t i.ints 10000 h1 h2 (by omega) xs ys 0 r w (by omega) (by omega) hc'
    rw [part_whole h h0 hs xs hx w] at q1
    rw [part_whole h h0 hs ys hy w] at q2
    cases q1; cases q2
    exact q3
  guard := by
    intro t i h h0 hs
    exact flat_guard 20 t i.ints _ (ints_flat h h0 hs).1 hd
  key := by
    intro t i h h0 hs b xs w hx hc
    obtain ⟨h1, h2⟩ := ints_flat h h0 hs
    cases hc2 : intCells xs.toList xs.toList with
    | none => rw [hc2] at hc; cases hc
    | some r =>
      have hc' : intCells (cut xs 0 i.ints) (cut xs 0 i.ints) = some r := by rw [cut_le xs hx.symm]; exact hc2
      obtain ⟨a, q1, q2⟩ := flat_key b 20 t i.ints 10000 h1 h2 (by omega) xs 0 r w (by omega) hc'
      rw [part_whole h h0 hs xs hx w] at q1
      cases q1
      exact q2

end
end Go.AI

/-! The abstract interpreter: the code of a program, printed: it is the program's. -/
namespace Go.AI
open Go.RowKit

/-- Of all entries of a map. -/
def Trie.AllP {α : Type} (p : Nat → α → Prop) : Trie α → (Nat → Nat) → Prop
  | .leaf, _ => True
  | .node l v r, key => (match v with
    | some x => p (key 0) x
    | none => True) ∧ Trie.AllP p l (fun k => key (2 * (k + 1))) ∧ Trie.AllP p r (fun k => key (2 * k + 1))

theorem Trie.AllP.get {α : Type} {p : Nat → α → Prop} : ∀ {t : Trie α} {key : Nat → Nat}, t.AllP p key → ∀ {k : Nat} {x : α}, t.get k = some x → p (key k) x := by
  intro t
  induction t with
  | leaf => intro key _ k x h; cases h
  | node l v r ihl ihr =>
    intro key hp k x h
    obtain ⟨h1, h2, h3⟩ := hp
    rw [get_eq] at h
    by_cases h0 : k = 0
    · rw [if_pos h0] at h
      have hv : v = some x := h
      subst hv; subst h0
      exact h1
    · rw [if_neg h0] at h
      by_cases hk : k % 2 = 1
      · rw [if_pos hk] at h
        have := ihr h3 (k := k / 2) h
        have e : 2 * (k / 2) + 1 = k := by omega
        rw [← e]; exact this
      · rw [if_neg hk] at h
        have := ihl h2 (k := k / 2 - 1) h
        have e : 2 * (k / 2 - 1 + 1) = k := by omega
        rw [← e]; exact this

/-- The ranges over functions in a function. -/
noncomputable def rangesIn (f : Nat) (Fm : Func) : List (Nat × Array Tmp × Code × Code) :=
  match Fm.body with
  | some b => rangesOf f b
  | none => []

/-- If it is called as a deferred one its text is as it is looked at. -/
noncomputable def dfrOk (Fm : Func) : Bool :=
  match Fm.body with
  | some (.seq (.region _ _ false) _) => true
  | some (.seq (.scope (.region _ _ _)) _) => false
  | some (.seq (.scope (.scope _)) _) => false
  | some (.seq _ _) => true
  | some (.scope _) => false
  | _ => true

def RoundsAre (rounds : Nat → Option AL) : List (Nat × AL) → Prop
  | [] => True
  | p :: ps => rounds p.1 = some p.2 ∧ RoundsAre rounds ps

theorem RoundsAre.mem {rounds : Nat → Option AL} : ∀ {ls : List (Nat × AL)}, RoundsAre rounds ls → ∀ p ∈ ls, rounds p.1 = some p.2 := by
  intro ls
  induction ls with
  | nil => intro _ p hp; cases hp
  | cons q ls ih =>
    intro h p hp
    rcases List.mem_cons.1 hp with rfl | hp
    · exact h.1
    · exact ih h.2 p hp

/-- A function's code, printed. -/
structure FnOk (P : Program) (rounds : Nat → Option AL) (f : Nat) (F : AF) : Prop where
  code : ∃ Fm b, P.funcs[f]? = some Fm ∧ Fm.body = some b ∧ (Fm.name == "runtime.NumGoroutine") = false ∧ comp (tyOf P) Fm.ntmps f b = some F.body ∧ Fm.results.toList.mapM (compR (tyOf P)) = some F.results ∧
    (∀ q ∈ rangesOf f b, ∀ L, rounds q.1 = some L → q.2.1.toList = L.ps ∧ comp (tyOf P) Fm.ntmps f q.2.2.1 = some L.assign ∧ comp (tyOf P) Fm.ntmps f q.2.2.2 = some L.body)
  dfr : ∀ l c, F.body = .seq (.ops l) c → ∃ Fm id ops b, P.funcs[f]? = some Fm ∧ Fm.body = some (.seq (.region id ops false) b)

theorem compRounds_mem {ty : Types} {N f : Nat} : ∀ {qs : List (Nat × Array Tmp × Code × Code)} {ls : List (Nat × AL)}, compRounds ty N f qs = some ls → ∀ q ∈ qs, ∃ L, (q.1, L) ∈ ls ∧ q.2.1.toList = L.ps ∧ comp ty N f q.2.2.1 = some L.assign ∧ comp ty N f q.2.2.2 = some L.body := by
  intro qs
  induction qs with
  | nil => intro ls _ q hq; cases hq
  | cons r rs ih =>
    intro ls h q hq
    simp only [compRounds, Option.bind_eq_bind, Option.bind_eq_some_iff, Option.some.injEq] at h
    obtain ⟨a, h1, b, h2, ls', h3, rfl⟩ := h
    rcases List.mem_cons.1 hq with rfl | hq
    · exact ⟨_, List.mem_cons_self .., rfl, h1, h2⟩
    · obtain ⟨L, h4, h5⟩ := ih h3 q hq
      exact ⟨L, List.mem_cons_of_mem _ h4, h5⟩

theorem FnOk.of {P : Program} {rounds : Nat → Option AL} {f : Nat} {F : AF} {Fm : Func} {ls : List (Nat × AL)} (hf : P.funcs[f]? = some Fm) (hn : (Fm.name == "runtime.NumGoroutine") = false) (hc : compF (tyOf P) f Fm = some F)
    (hr : compRounds (tyOf P) Fm.ntmps f (rangesIn f Fm) = some ls) (hls : RoundsAre rounds ls) (hd : dfrOk Fm = true) : FnOk P rounds f F := by
  unfold compF at hc
  simp only [Option.bind_eq_bind, Option.bind_eq_some_iff, Option.some.injEq] at hc
  obtain ⟨b, hb, c, hc, rs, hrs, rfl⟩ := hc
  have hri : rangesIn f Fm = rangesOf f b := by unfold rangesIn; rw [hb]
  rw [hri] at hr
  refine ⟨⟨Fm, b, hf, hb, hn, hc, hrs, ?_⟩, ?_⟩
  · intro q hq L hL
    obtain ⟨L', h1, h2⟩ := compRounds_mem hr q hq
    have := hls.mem _ h1
    simp only at this
    rw [hL] at this
    cases this
    exact h2
  · intro l c' hbody
    simp only at hbody
    subst hbody
    unfold dfrOk at hd
    rw [hb] at hd
    have draws : ∀ {N : Nat} {ops : Array Oper} {l : List AO}, compDraw (tyOf P) N ops ≠ some (.ops l) := by
      intro N ops l h
      obtain ⟨l', h'⟩ := compDraw_drawn h
      cases h'
    cases b with
    | seq x y =>
      simp only [comp, Option.bind_eq_bind, Option.bind_eq_some_iff, Option.some.injEq] at hc
      obtain ⟨cx, hx, cy, hy, hcc⟩ := hc
      cases hcc
      cases x <;> simp only [comp] at hx <;> try (cases hx; done)
      · rename_i id ops draw
        cases draw with
        | true =>
          simp only [if_true] at hx
          exact absurd hx draws
        | false => exact ⟨Fm, id, ops, y, hf, hb⟩
      · simp only [Option.bind_eq_bind, Option.bind_eq_some_iff] at hx
        obtain ⟨_, _, _, _, hx⟩ := hx
        cases hx
      · simp only [Option.bind_eq_bind, Option.bind_eq_some_iff] at hx
        obtain ⟨_, _, _, _, _, _, hx⟩ := hx
        cases hx
      · rw [Option.map_eq_some_iff] at hx
        obtain ⟨_, _, hx⟩ := hx
        cases hx
      · rw [Option.map_eq_some_iff] at hx
        obtain ⟨_, _, hx⟩ := hx
        cases hx
      · split at hx
        · rw [Option.map_eq_some_iff] at hx
          obtain ⟨_, _, hx⟩ := hx
          cases hx
        · cases hx
      · rename_i z
        cases z <;> simp only [comp] at hx <;> try (cases hx; done)
        · simp at hd
        · simp only [Option.bind_eq_bind, Option.bind_eq_some_iff] at hx
          obtain ⟨_, _, _, _, hx⟩ := hx
          cases hx
        · simp only [Option.bind_eq_bind, Option.bind_eq_some_iff] at hx
          obtain ⟨_, _, _, _, _, _, hx⟩ := hx
          cases hx
        · rw [Option.map_eq_some_iff] at hx
          obtain ⟨_, _, hx⟩ := hx
          cases hx
        · rw [Option.map_eq_some_iff] at hx
          obtain ⟨_, _, hx⟩ := hx
          cases hx
        · split at hx
          · rw [Option.map_eq_some_iff] at hx
            obtain ⟨_, _, hx⟩ := hx
            cases hx
          · cases hx
        · simp at hd
    | scope z => simp at hd
    | region id ops draw =>
      simp only [comp] at hc
      cases draw with
      | true => obtain ⟨_, h'⟩ := compDraw_drawn hc; cases h'
      | false =>
        simp only [Bool.false_eq_true, if_false] at hc
        rw [Option.map_eq_some_iff] at hc
        obtain ⟨_, _, hx⟩ := hc
        cases hx
    | cond x y z =>
      simp only [comp, Option.bind_eq_bind, Option.bind_eq_some_iff] at hc
      obtain ⟨_, _, _, _, _, _, hx⟩ := hc
      cases hx
    | block i z =>
      simp only [comp] at hc
      rw [Option.map_eq_some_iff] at hc
      obtain ⟨_, _, hx⟩ := hc
      cases hx
    | loop z =>
      simp only [comp] at hc
      rw [Option.map_eq_some_iff] at hc
      obtain ⟨_, _, hx⟩ := hc
      cases hx
    | rangeFunc g ps x y =>
      simp only [comp] at hc
      split at hc
      · rw [Option.map_eq_some_iff] at hc
        obtain ⟨_, _, hx⟩ := hc
        cases hx
      · cases hc
    | _ => simp only [comp] at hc; cases hc

/-- Where a method is: what a run of the model's own look says. -/
def MethOk (P : Program) (meth : TypeId → String → Option (FuncId × Option (Bool × Nat))) : Prop :=
  ∀ t name f how, meth t name = some (f, how) → ∀ (v : Value) (w : World), match how with
    | none => (method (P.types.size + Made.depth) t v name).run P w = .ok (f, v) w
    | some p => ∀ a q, v = .pointer (some a) → ((if p.1 then (do pure (.agg (← loadCells a p.2))) else load a : Sem Value).run P w = .ok q w) → (method (P.types.size + Made.depth) t v name).run P w = .ok (f, q) w

theorem MethOk.none {P : Program} : MethOk P fun _ _ => none := by intro t name f how h; cases h

/-- A specification's own calls. -/
def SpecOk (P : Program) (E : Env) (B0 : Nat) : Prop :=
  ∀ f args s r, E.spec f args s = some (some r) → ∀ μ w args', Rel (LoopLR (tyOf P) E) B0 μ s w → GOk μ → VRs μ args args' →
    CallsIn Fence.wide 0 P f args'.toArray w (CallR (LoopLR (tyOf P) E) B0 μ s w r) ∧ ∃ Fm b, P.funcs[f]? = some Fm ∧ Fm.body = some b ∧ (Fm.name == "runtime.NumGoroutine") = false

theorem envOk {P : Program} {E : Env} {B0 : Nat} {fnT : Trie AF} (hfn : ∀ f, E.fn f = fnT.get f) (hok : fnT.AllP (FnOk P E.rounds) fun k => k) (hm : MethOk P E.meth) (hs : SpecOk P E B0) : EnvOk P (tyOf P) E B0 where
  fn := by
    intro f F h
    rw [hfn] at h
    obtain ⟨Fm, b, h1, h2, h3, h4, h5, h6⟩ := (hok.get h).code
    exact ⟨Fm, b, h1, h2, h3, h4, h5, h6⟩
  dfr := by
    intro f F l c h _ hb
    rw [hfn] at h
    exact (hok.get h).dfr l c hb
  meth := hm
  spec := hs

end Go.AI

/-! The abstract interpreter: a call of a function that takes nothing: what it leaves in memory is forgotten. -/
namespace Go.AI
open Go.RowKit

section
variable {P : Program}

/-- A value without addresses has no other side but itself. -/
theorem plainF_same {μ : Mu} : ∀ (n : Nat) (v v' : Value), plainF n v = true → VR μ v v' → v' = v := by
  intro n
  induction n with
  | zero => intro v v' h; simp [plainF] at h
  | succ n ih =>
    intro v v' h hr
    have list : ∀ {xs ys : List Value}, xs.all (plainF n) = true → VRs μ xs ys → ys = xs := by
      intro xs ys hx hxy
      induction hxy with
      | nil => rfl
      | cons h1 _ ihl =>
        simp only [List.all_cons, Bool.and_eq_true] at hx
        rw [ih _ _ hx.1 h1, ihl hx.2]
    cases hr with
    | unknown v => simp [plainF, unknown] at h
    | bool b => rfl
    | int k m => rfl
    | string s => rfl
    | ptrNil => rfl
    | ptr h1 => simp [plainF] at h
    | sliceNil => rfl
    | slice => simp [plainF] at h
    | mapNil => rfl
    | map h1 => simp [plainF] at h
    | func ha hb hav hbv =>
      simp only [plainF, Bool.and_eq_true] at h
      rw [Array.ext' (list h.1 (.of_array ha hav)), Array.ext' (list h.2 (.of_array hb hbv))]
    | yield h1 => simp [plainF] at h
    | nilFunc => rfl
    | iface t h1 => rw [ih _ _ (by simpa [plainF] using h) h1]
    | nilIface => rfl
    | agg hs h1 =>
      simp only [plainF] at h
      rw [Array.ext' (list h (.of_array hs h1))]
    | tuple => simp [plainF] at h

theorem plain_same {μ : Mu} {v v' : Value} (h : plain v = true) (hr : VR μ v v') : v' = v := plainF_same 20 v v' h hr


/-- The relation stays where the machine's memory has grown. -/
theorem Rel.below {LR : LoopOk} {B0 : Nat} {μ : Mu} {s : St} {w w' : World} (h : Rel LR B0 μ s w) (hb : Below w.heap.size w w') : Rel LR B0 μ s w' :=
  ⟨fun i e l he hl => (h.obj i e l he hl).keep (.refl μ) (hb.block _ (h.dom i l hl).2), fun i l hl => ⟨(h.dom i l hl).1, Nat.lt_of_lt_of_le (h.dom i l hl).2 hb.size⟩, h.objs, h.fams, h.own, h.sep, h.chain, h.lone, h.eps, h.famd,
    Nat.le_trans h.low hb.size⟩

/-- A memory with the package-level variable alone. -/
noncomputable def bare (g : List Value) : St := ⟨Trie.leaf.set 0 ⟨.cells g, 0, 0, true⟩, .leaf, 1⟩

theorem bare_get (g : List Value) (i : Nat) : (bare g).objs.get i = if i = 0 then some ⟨.cells g, 0, 0, true⟩ else none := by
  unfold bare
  rw [Trie.get_set]
  by_cases h : i = 0
  · rw [if_pos h, if_pos h]
  · rw [if_neg h, if_neg h]; rfl
theorem bare_fams (g : List Value) (f : Nat) : (bare g).fams.get f = none := rfl
theorem bare_ent (g : List Value) (i : Nat) : (bare g).ent? i = if i = 0 then some ⟨.cells g, 0, 0, true⟩ else none := by
  by_cases h : i = 0
  · rw [if_pos h]
    exact ent?_of (by rw [bare_get, if_pos h]) (by rw [famOf_none (bare_fams g _)])
  · rw [if_neg h, ent?_eq, bare_get, if_neg h]; rfl

/-- The package-level variable alone, on both sides. -/
noncomputable def muBare (l : Loc) : Mu := fun i => if i = 0 then some l else none

theorem Rel.bare {LR LR' : LoopOk} {B0 : Nat} {μ : Mu} {s : St} {w : World} (h : Rel LR B0 μ s w) {g : List Value} (hg : s.ent? 0 = some ⟨.cells g, 0, 0, true⟩) (hgp : ∀ v ∈ g, plain v = true) {l : Loc} (hl : μ 0 = some l) : Rel LR' w.heap.size (muBare l) (bare g) w := by
  have hmu : ∀ i l', muBare l i = some l' → i = 0 ∧ l' = l := by
    intro i l' hi
    unfold muBare at hi
    by_cases h0 : i = 0
    · rw [if_pos h0] at hi; cases hi; exact ⟨h0, rfl⟩
    · rw [if_neg h0] at hi; cases hi
  have hent : ∀ i e, (AI.bare g).ent? i = some e → i = 0 ∧ e = ⟨.cells g, 0, 0, true⟩ := by
    intro i e he
    rw [bare_ent] at he
    by_cases h0 : i = 0
    · rw [if_pos h0] at he; cases he; exact ⟨h0, rfl⟩
    · rw [if_neg h0] at he; cases he
  have hobj : ∀ i e, (AI.bare g).objs.get i = some e → i = 0 ∧ e = ⟨.cells g, 0, 0, true⟩ := by
    intro i e he
    rw [bare_get] at he
    by_cases h0 : i = 0
    · rw [if_pos h0] at he; cases he; exact ⟨h0, rfl⟩
    · rw [if_neg h0] at he; cases he
  refine ⟨?_, ?_, ?_, ?_, ?_, ?_, ?_, ?_, ?_, ?_, Nat.le_refl _⟩
  · intro i e l' he hl'
    obtain ⟨rfl, rfl⟩ := hent i e he
    obtain ⟨_, rfl⟩ := hmu _ l' hl'
    obtain ⟨cs, elem, fr, h1, _, h3, h4, h5, h6⟩ := h.obj 0 _ l' hg hl
    refine ⟨cs, elem, fr, h1, (by intro x; cases x), h3, h4, h5, ?_⟩
    intro j v hv
    obtain ⟨v', k1, k2⟩ := h6 j v hv
    have hp : VR (muBare l') v v := VR.of_plain (hgp v (List.mem_of_getElem? hv))
    refine ⟨v', k1, ?_⟩
    have : v' = v := plain_same (hgp v (List.mem_of_getElem? hv)) k2
    rw [this]; exact hp
  · intro i l' hl'
    obtain ⟨rfl, rfl⟩ := hmu i l' hl'
    exact ⟨Nat.lt_succ_self _, (h.dom 0 _ hl).2⟩
  · intro i e he
    obtain ⟨rfl, rfl⟩ := hobj i e he
    exact ⟨Nat.lt_succ_self _, Nat.lt_succ_self _⟩
  · intro f p hp; rw [bare_fams] at hp; cases hp
  · intro i e l' he _ hr
    obtain ⟨rfl, rfl⟩ := hent i e he
    cases hr
  · intro i j e e' l1 l2 hi hj _ _ hr
    obtain ⟨rfl, rfl⟩ := hent i e hi
    cases hr
  · intro i e l' E t _ _ hf; rw [bare_fams] at hf; cases hf
  · intro i e he _
    obtain ⟨rfl, rfl⟩ := hent i e he
    rfl
  · intro i e he
    obtain ⟨rfl, rfl⟩ := hobj i e he
    exact Nat.zero_le _
  · intro i e l' he _
    obtain ⟨rfl, rfl⟩ := hobj i e he
    exact ⟨l, rfl⟩

end
end Go.AI

/-! The abstract interpreter: calls that are known: of functions that take nothing, and give a flag. -/
namespace Go.AI
open Go.RowKit

section
variable {P : Program}

theorem LoopLR_rounds {ty : Types} {E E' : Env} (h : E.rounds = E'.rounds) : LoopLR ty E = LoopLR ty E' := by
  unfold LoopLR RangesOk
  rw [h]

theorem CallsIn.of_mono {F : Fence} {n : Nat} {f : FuncId} {args : Array Value} {w : World} {R R' : Ending → World → Prop} (h : CallsIn F n P f args w R) (hr : ∀ e w', R e w' → R' e w') : CallsIn F n P f args w R' := CallsIn.mono h hr

/-- A call of a function that takes nothing and gives a flag: it is as if nothing had been made in memory. -/
theorem closed_calls (hT : TyOk P (tyOf P)) (hm : P.follows .mixedOrders = true) {E0 E : Env} (hE0 : ∀ B0, EnvOk P (tyOf P) E0 B0) {k : Nat} {f : FuncId} {g : List Value} {b : Bool} {s1 : St} (hgp : ∀ v ∈ g, plain v = true)
    (h : call E0 k f [] (bare g) = some (.ret (.bool b), s1)) {B0 : Nat} {μ : Mu} {s : St} {w : World} (hR : Rel (LoopLR (tyOf P) E) B0 μ s w) (hG : GOk μ) (hg : s.ent? 0 = some ⟨.cells g, 0, 0, true⟩) :
    CallsIn Fence.wide 0 P f #[] w (CallR (LoopLR (tyOf P) E) B0 μ s w (.ret (.bool b), s)) ∧ ∃ Fm b, P.funcs[f]? = some Fm ∧ Fm.body = some b ∧ (Fm.name == "runtime.NumGoroutine") = false := by
  obtain ⟨lim, hl⟩ := hG
  have hR0 : Rel (LoopLR (tyOf P) E0) w.heap.size (muBare ⟨0, 0, lim⟩) (bare g) w := hR.bare hg hgp hl
  have hG0 : GOk (muBare ⟨0, 0, lim⟩) := ⟨lim, rfl⟩
  have hc := call_ok hT hm (hE0 w.heap.size) h hR0 hG0 (args' := []) .nil
  refine ⟨hc.mono ?_, ?_⟩
  · rintro e w' ⟨μ', _, hk, hres⟩
    refine ⟨μ, hR.below hk.below, ⟨.refl μ, fun i hi hn => ⟨hn, rfl, rfl⟩, Nat.le_refl _, hk.below.mono hR.low⟩, ?_⟩
    cases hres with
    | ret hv => rw [hv.bool_inv]; exact .ret (.bool b)
  · have := (fn_sound hT (hE0 w.heap.size) (exec_ok hT hm (hE0 w.heap.size) k) (defer_ok hT (hE0 w.heap.size) (exec_ok hT hm (hE0 w.heap.size) k)) h hR0 hG0 (args' := []) .nil).2
    exact this

noncomputable def lookN (f : Nat) (l : List (Nat × Bool)) : Option Bool :=
  List.rec (motive := fun _ => Option Bool) none (fun p _ ih => ifB (Nat.beq p.1 f) (some p.2) ih) l

/-- The package-level variable holds this. -/
noncomputable def globIs (g : List Value) (s : St) : Bool :=
  match s.ent? 0 with
  | some e => (match e.obj with
    | .cells c => veqL 1000 c g && Nat.beq e.fam 0 && Nat.beq e.ep 0 && e.ro
    | _ => false)
  | none => false

theorem globIs_eq {g : List Value} {s : St} (h : globIs g s = true) : s.ent? 0 = some ⟨.cells g, 0, 0, true⟩ := by
  unfold globIs at h
  cases he : s.ent? 0 with
  | none => rw [he] at h; cases h
  | some e =>
    rw [he] at h
    obtain ⟨ob, fam, ep, ro⟩ := e
    simp only at h
    cases ob <;> simp only at h <;> try (cases h; done)
    simp only [Bool.and_eq_true] at h
    obtain ⟨⟨⟨h1, h2⟩, h3⟩, h4⟩ := h
    rw [(veq_both 1000).2 _ _ h1, eq_of_nbeq h2, eq_of_nbeq h3, h4]

/-- Calls that are known. -/
noncomputable def knownSpec (g : List Value) (l : List (Nat × Bool)) (f : FuncId) (args : List Value) (s : St) : Option (Option (CRes × St)) :=
  match args with
  | [] => optE (lookN f l) none fun b => ifB (globIs g s) (some (some (.ret (.bool b), s))) none
  | _ => none

theorem lookN_mem {f : Nat} {b : Bool} : ∀ {l : List (Nat × Bool)}, lookN f l = some b → (f, b) ∈ l := by
  intro l
  induction l with
  | nil => intro h; cases h
  | cons p l ih =>
    intro h
    have h' : ifB (Nat.beq p.1 f) (some p.2) (lookN f l) = some b := h
    cases hb : Nat.beq p.1 f with
    | true =>
      rw [hb] at h'
      simp only [ifB_true, Option.some.injEq] at h'
      have := eq_of_nbeq hb
      rw [← this, ← h']; exact List.mem_cons_self ..
    | false => rw [hb] at h'; exact List.mem_cons_of_mem _ (ih h')

/-- The environment in which they are known. -/
noncomputable def withKnown (E0 : Env) (g : List Value) (l : List (Nat × Bool)) : Env := ⟨E0.fn, E0.rounds, E0.meth, knownSpec g l⟩

theorem known_ok (hT : TyOk P (tyOf P)) (hm : P.follows .mixedOrders = true) {E0 : Env} (hE0 : ∀ B0, EnvOk P (tyOf P) E0 B0) {g : List Value} (hgp : ∀ v ∈ g, plain v = true) {l : List (Nat × Bool)}
    (hl : ∀ p ∈ l, ∃ E1 k s1, (∀ B0, EnvOk P (tyOf P) E1 B0) ∧ call E1 k p.1 [] (bare g) = some (.ret (.bool p.2), s1)) (B0 : Nat) : EnvOk P (tyOf P) (withKnown E0 g l) B0 := by
  have h0 := hE0 B0
  refine ⟨h0.fn, h0.dfr, h0.meth, ?_⟩
  intro f args s r h μ w args' hR hG hv
  have h' : knownSpec g l f args s = some (some r) := h
  unfold knownSpec at h'
  cases args with
  | cons a as => cases h'
  | nil =>
    simp only at h'
    rw [optE_eq] at h'
    obtain ⟨b, h1, h2⟩ := h'
    rw [ifB_eq] at h2
    obtain ⟨h3, h4⟩ := h2
    cases h4
    cases hv
    obtain ⟨E1, k, s1, e1, e3⟩ := hl _ (lookN_mem h1)
    exact closed_calls hT hm e1 (E := withKnown E0 g l) hgp e3 hR hG (globIs_eq h3)

/-- The flag that a call comes to. -/
noncomputable def flagOf (r : Option (CRes × St)) : Option Bool :=
  match r with
  | some (.ret (.bool b), _) => some b
  | _ => none
theorem flagOf_eq {r : Option (CRes × St)} {b : Bool} (h : flagOf r = some b) : ∃ s1, r = some (.ret (.bool b), s1) := by
  unfold flagOf at h
  split at h
  · cases h; exact ⟨_, rfl⟩
  · cases h

end
end Go.AI

/-! The abstract interpreter: from a run to a law's row. -/
namespace Go.AI
open Go.ChangeShapes Go.WideShapes Go.ChangeAt Go.WideMaps Go.WideElems Go.RowKit

section
variable {H : Type} {enc : TypeId × Value → H} {P : Program}

theorem trodAll_lt {W : World} : ∀ {ts : List TypeId} {vs : List Value} {ds : List (DataW H)} {ps : List MemPlace}, DataW.TrodAll enc P W 0 (fun _ => true) true ts vs ds ps → ∀ x ∈ ps, x.block < W.heap.size := by
  intro ts
  induction ts with
  | nil =>
    intro vs ds ps h
    obtain ⟨_, _, rfl⟩ := trodAll_nil h
    intro x hx; cases hx
  | cons t ts ih =>
    intro vs ds ps h
    obtain ⟨v, vs', d, ds', p, q, rfl, rfl, rfl, hd, hr⟩ := trodAll_cons h
    intro x hx
    rcases List.mem_append.1 hx with hx | hx
    · obtain ⟨n, hn⟩ := hd
      exact DataW.trod_lt n _ _ _ hn x hx
    · exact ih hr x hx

/-- Arguments read behind the call as they did. -/
theorem trodAll_below (hl : laidOutB P = true) {W W' : World} (hb : Below W.heap.size W W') : ∀ {ts : List TypeId} {vs : List Value} {ds : List (DataW H)} {ps : List MemPlace}, (∀ t ∈ ts, P.readableRec t = true ∧ t < P.types.size) →
    DataW.TrodAll enc P W 0 (fun _ => true) true ts vs ds ps → DataW.TrodAll enc P W' 0 (fun b => decide (b < W.heap.size)) true ts vs ds ps := by
  intro ts
  induction ts with
  | nil =>
    intro vs ds ps _ h
    obtain ⟨rfl, rfl, rfl⟩ := trodAll_nil h
    exact trodAll_mk0
  | cons t ts ih =>
    intro vs ds ps ht h
    obtain ⟨v, vs', d, ds', p, q, rfl, rfl, rfl, hd, hr⟩ := trodAll_cons h
    obtain ⟨h1, h2⟩ := ht t (List.mem_cons_self ..)
    refine ⟨p, q, Below.trod hl h1 h2 hd hb (fun x hx => ?_), ih (fun t ht' => ht t (List.mem_cons_of_mem _ ht')) hr, rfl⟩
    obtain ⟨n, hn⟩ := hd
    exact DataW.trod_lt n _ _ _ hn x hx

/-- A law's end: it gives true, and what was handed in reads as it did. -/
theorem law_post {f : Func} {s : ChangeSpec} (hl : laidOutB P = true) (hts : ∀ t ∈ f.params.toList, P.readableRec t = true ∧ t < P.types.size) {t : TypeId} (hr : f.resultTypes = #[t]) (ht : P.underlying t = some .bool) (hv : s.vars = []) {W W' : World} {args : Array Value}
    {ds gs : List (DataW H)} {before : List MemPlace} (hW : DataW.Whole enc P f.params.toList s.vars false W args.toList ds gs before) (hfn : s.fn H ds = { results := [.lit (.bool true)], args := ds }) (hb : Below W.heap.size W W') :
    s.post enc P f false true false false W args (.bool true) W' := by
  have hW' := hW
  obtain ⟨p, q, hA, hV, rfl, _, _⟩ := hW
  rw [hv] at hV
  obtain ⟨rfl, rfl⟩ := trodVars_none hV
  refine ⟨ds, [], p ++ [], [], p, [], hW', ?_, ?_, ?_, hb.frame _, fun h => by cases h⟩
  · rw [List.append_nil, hfn, hr]
    exact trodAll_mk1 (shut_bool ht true)
  · rw [List.append_nil, hfn]
    exact trodAll_below hl hb hts hA
  · rw [List.append_nil, hfn, hv]
    exact rfl

/-- What is known of a listed variable of two whole numbers. -/
theorem laid_two {nm : String} {a b : Int} {T t0 t1 : TypeId} {f0 f1 : Field} {W : World} (h : laidMet P [(nm, .agg [.lit (.int .i64 a), .lit (.int .i64 b)])] W) (hg : P.globalNamed nm = some 0) (hT : (P.globals[0]?).map (·.type) = some T)
    (hu : P.underlying T = some (.struct #[f0, f1])) (h0 : f0.type = t0 ∧ f0.offset = 0) (h1 : f1.type = t1 ∧ f1.offset = 1) (hc : P.cellsOf T = 2) (hc0 : P.cellsOf t0 = 1) (hc1 : P.cellsOf t1 = 1) (hu0 : P.underlying t0 = some (.int .i64)) (hu1 : P.underlying t1 = some (.int .i64)) :
    ∃ cs elem, W.heap[0]? = some (.cells cs elem (0, 0)) ∧ cs.toList = [.int .i64 a, .int .i64 b] := by
  obtain ⟨ps, ⟨g, t, cs, fuel, p, q, k1, k2, k3, k4, _, k5⟩, _, hfr⟩ := h
  rw [hg] at k1; cases k1
  rw [hT] at k2; cases k2
  obtain ⟨y0, y1, n, e1, e2, e3, e4⟩ := trod_struct2 hu k4
  rw [h0.1, h0.2, hc0] at e3
  rw [h1.1, h1.2, hc1] at e4
  rw [hc] at e2
  obtain ⟨m0, r0, r1, _⟩ := DataW.trod_int hu0 e3
  obtain ⟨m1, r2, r3, _⟩ := DataW.trod_int hu1 e4
  have hcs : cs.toList = [.int .i64 m0, .int .i64 m1] := by
    match hl : cs.toList, e2 with
    | [x, y], _ =>
      rw [hl] at r0 r2
      simp at r0 r2
      rw [r0, r2]
  simp only [Prod.mk.injEq, DataW.agg.injEq, List.cons.injEq] at e1
  rw [r1, r3] at e1
  simp at e1
  obtain ⟨rfl, rfl⟩ := e1.1
  have hsz : cs.size = 2 := by have := congrArg List.length hcs; simpa using this
  have hmem : MemPlace.cell 0 0 ∈ ps := by
    rw [k5, hsz]
    simp [MemPlace.row]
  obtain ⟨⟨c, t, hc'⟩, _⟩ := hfr 0 0 hmem
  unfold World.var? at k3
  rw [hg, Option.bind_some, hc'] at k3
  simp only [Option.some.injEq] at k3
  subst k3
  exact ⟨_, _, hc', hcs⟩

end
end Go.AI

/-! The abstract interpreter: a start: what was handed in, and the package-level variable, never written. -/
namespace Go.AI
open Go.RowKit

noncomputable def startT : List (List Value) → Nat → Trie Ent
  | [], _ => .leaf
  | c :: cs, i => (startT cs (i + 1)).set i ⟨.cells c, i, 0, true⟩

theorem startT_get : ∀ (cs : List (List Value)) (i j : Nat), (startT cs i).get j = if i ≤ j then (cs[j - i]?).map (fun c => ⟨.cells c, j, 0, true⟩) else none := by
  intro cs
  induction cs with
  | nil => intro i j; simp [startT]
  | cons c cs ih =>
    intro i j
    simp only [startT]
    rw [Trie.get_set]
    by_cases h : j = i
    · subst h; simp
    · rw [if_neg h, ih]
      by_cases h1 : i + 1 ≤ j
      · rw [if_pos h1, if_pos (by omega)]
        have : j - i = (j - (i + 1)) + 1 := by omega
        rw [this, List.getElem?_cons_succ]
      · rw [if_neg h1, if_neg (by omega)]

/-- A memory of objects that are never written. -/
noncomputable def startS (cs : List (List Value)) : St := ⟨startT cs 0, .leaf, cs.length⟩

theorem startS_get (cs : List (List Value)) (i : Nat) : (startS cs).objs.get i = (cs[i]?).map fun c => ⟨.cells c, i, 0, true⟩ := by
  unfold startS
  rw [startT_get]; simp
theorem startS_ent (cs : List (List Value)) (i : Nat) : (startS cs).ent? i = (cs[i]?).map fun c => ⟨.cells c, i, 0, true⟩ := by
  cases h : cs[i]? with
  | none => rw [ent?_eq, startS_get, h]; rfl
  | some c => exact ent?_of (by rw [startS_get, h]; rfl) (by rw [famOf_none rfl])

theorem Rel.start {LR : LoopOk} {W : World} (cs : List (List Value)) (ls : List Loc) (hl : ls.length = cs.length)
    (h : ∀ (i : Nat) c l, cs[i]? = some c → ls[i]? = some l → ObjR LR (fun i => ls[i]?) W (.cells c) true l) : Rel LR W.heap.size (fun i => ls[i]?) (startS cs) W := by
  have hent : ∀ i e, (startS cs).ent? i = some e → ∃ c, cs[i]? = some c ∧ e = ⟨.cells c, i, 0, true⟩ := by
    intro i e he
    rw [startS_ent] at he
    cases hc : cs[i]? with
    | none => rw [hc] at he; cases he
    | some c => rw [hc] at he; simp at he; exact ⟨c, rfl, he.symm⟩
  have hobj : ∀ i e, (startS cs).objs.get i = some e → ∃ c, cs[i]? = some c ∧ e = ⟨.cells c, i, 0, true⟩ := by
    intro i e he
    rw [startS_get] at he
    cases hc : cs[i]? with
    | none => rw [hc] at he; cases he
    | some c => rw [hc] at he; simp at he; exact ⟨c, rfl, he.symm⟩
  have hlt : ∀ {i : Nat} {c : List Value}, cs[i]? = some c → i < cs.length := fun hc => (List.getElem?_eq_some_iff.1 hc).1
  refine ⟨?_, ?_, ?_, ?_, ?_, ?_, ?_, ?_, ?_, ?_, Nat.le_refl _⟩
  · intro i e l he hi
    obtain ⟨c, hc, rfl⟩ := hent i e he
    exact h i c l hc hi
  · intro i l hi
    have hi' : ls[i]? = some l := hi
    have hil : i < cs.length := by rw [← hl]; exact (List.getElem?_eq_some_iff.1 hi').1
    refine ⟨hil, ?_⟩
    obtain ⟨ce, elem, fr, h1, _⟩ := h i cs[i] l (by simp [hil]) hi'
    exact (Array.getElem?_eq_some_iff.1 h1).1
  · intro i e he
    obtain ⟨c, hc, rfl⟩ := hobj i e he
    exact ⟨hlt hc, hlt hc⟩
  · intro f p hp; cases hp
  · intro i e l he _ hr
    obtain ⟨c, hc, rfl⟩ := hent i e he
    cases hr
  · intro i j e e' l1 l2 hi hj _ _ hr
    obtain ⟨c, hc, rfl⟩ := hent i e hi
    cases hr
  · intro i e l' E t _ _ hf; cases hf
  · intro i e he _
    obtain ⟨c, hc, rfl⟩ := hent i e he
    rfl
  · intro i e he
    obtain ⟨c, hc, rfl⟩ := hobj i e he
    exact Nat.zero_le _
  · intro i e l' he hi
    obtain ⟨c, hc, rfl⟩ := hobj i e he
    exact ⟨l', hi⟩

/-- A block of memory that is shown from a place on. -/
theorem cellsR_start {LR : LoopOk} {μ : Mu} {W : World} {c : List Value} {l : Loc} {cs : Array Value} {elem : TypeId} {fr : Nat × Nat} (hb : W.heap[l.block]? = some (.cells cs elem fr)) (hlim : l.base + c.length ≤ l.lim) (hsz : l.lim ≤ cs.size)
    (hok : cellsOk c = true) (hc : ∀ (i : Nat) v, c[i]? = some v → ∃ v', cs[l.base + i]? = some v' ∧ VR μ v v') : ObjR LR μ W (.cells c) true l :=
  ⟨cs, elem, fr, hb, (by intro x; cases x), hlim, hsz, hok, hc⟩

/-! ## Short names, for printed code -/
namespace C
noncomputable def t (n : Nat) : AX := .tmp n
noncomputable def i (n : Int) : AX := .val (.int .i64 n)
noncomputable def b (x : Bool) : AX := .val (.bool x)
noncomputable def q (n d : Nat) (f : OpF) : AO := ⟨n, some d, none, .op .quiet f, []⟩
noncomputable def qg (n d g : Nat) (x : Bool) (f : OpF) : AO := ⟨n, some d, some (g, x), .op .quiet f, []⟩
noncomputable def r (n d : Nat) (f : OpF) : AO := ⟨n, some d, none, .op .reads f, []⟩
noncomputable def rg (n d g : Nat) (x : Bool) (f : OpF) : AO := ⟨n, some d, some (g, x), .op .reads f, []⟩
noncomputable def h (n d : Nat) (f : OpF) : AO := ⟨n, some d, none, .op .hard f, []⟩
noncomputable def h0 (n : Nat) (f : OpF) : AO := ⟨n, none, none, .op .hard f, []⟩
noncomputable def c (n d : Nat) (f : FuncId) (xs : List AX) : AO := ⟨n, some d, none, .callF f xs, []⟩
noncomputable def c0 (n : Nat) (f : FuncId) (xs : List AX) : AO := ⟨n, none, none, .callF f xs, []⟩
noncomputable def m (d x : Nat) : Nat → AO := fun n => q n d (oMv (t x))
end C

end Go.AI
