/- The abstract interpreter: memory, for walks. -/
import Derived.Test.YtjfppkhaiooloaaGreatDoorAiXs
namespace Go.AI

/-- What every memory is that a run comes to. -/
structure Wf (s : St) : Prop where
  objs : ∀ i e, s.objs.get i = some e → i < s.next ∧ e.fam < s.next
  fams : ∀ f p, s.fams.get f = some p → f < s.next
  lone : ∀ i e, s.ent? i = some e → s.fams.get e.fam = none → e.fam = i
  eps : ∀ i e, s.objs.get i = some e → e.ep ≤ (s.famOf e.fam).1

theorem Rel.wf {LR : LoopOk} {B0 : Nat} {μ : Mu} {s : St} {w : World} (h : Rel LR B0 μ s w) : Wf s := ⟨h.objs, h.fams, h.lone, h.eps⟩

theorem wf_rel {s : St} (h : Wf s) (w : World) : Rel (fun _ _ => True) 0 (fun _ => none) s w :=
  { obj := fun _ _ _ _ hl => nomatch hl
    dom := fun _ _ hl => nomatch hl
    objs := h.objs
    fams := h.fams
    own := fun _ _ _ _ hl => nomatch hl
    sep := fun _ _ _ _ _ _ _ _ hl => nomatch hl
    chain := fun _ _ _ _ _ _ hl => nomatch hl
    lone := h.lone
    eps := h.eps
    famd := fun _ _ _ _ hl => nomatch hl
    low := Nat.zero_le _ }

theorem wf_start (cs : List (List Value)) : Wf (startS cs) := by
  have hobj : ∀ i e, (startS cs).objs.get i = some e → ∃ c, cs[i]? = some c ∧ e = ⟨.cells c, i, 0, true⟩ := by
    intro i e he
    rw [startS_get] at he
    cases hc : cs[i]? with
    | none => rw [hc] at he; cases he
    | some c => rw [hc] at he; simp at he; exact ⟨c, rfl, he.symm⟩
  refine ⟨?_, ?_, ?_, ?_⟩
  · intro i e he
    obtain ⟨c, hc, rfl⟩ := hobj i e he
    have := (List.getElem?_eq_some_iff.1 hc).1
    exact ⟨this, this⟩
  · intro f p hp; cases hp
  · intro i e he _
    obtain ⟨c, hc, rfl⟩ := hobj i e (ent?_some he).1
    rfl
  · intro i e he
    obtain ⟨c, hc, rfl⟩ := hobj i e he
    exact Nat.zero_le _

/-- All that was there stays, but for some families. -/
structure Keep (F : Nat → Prop) (s s' : St) : Prop where
  next : s.next ≤ s'.next
  ent : ∀ j e, s.ent? j = some e → ¬ F e.fam → s'.ent? j = some e
  fam : ∀ f, f < s.next → ¬ F f → s'.fams.get f = s.fams.get f

def No : Nat → Prop := fun _ => False

theorem Keep.refl (F : Nat → Prop) (s : St) : Keep F s s := ⟨Nat.le_refl _, fun _ _ h _ => h, fun _ _ _ => rfl⟩
theorem Keep.trans {F : Nat → Prop} {s s' s'' : St} (h : Keep F s s') (k : Keep F s' s'') : Keep F s s'' :=
  ⟨Nat.le_trans h.next k.next, fun j e he hf => k.ent j e (h.ent j e he hf) hf, fun f hf hn => (k.fam f (Nat.lt_of_lt_of_le hf h.next) hn).trans (h.fam f hf hn)⟩
theorem Keep.mono {F G : Nat → Prop} {s s' : St} (h : Keep F s s') (hg : ∀ f, f < s.next → F f → G f) (hw : Wf s) : Keep G s s' :=
  ⟨h.next, fun j e he hn => h.ent j e he fun hF => hn (hg _ (hw.objs j e (ent?_some he).1).2 hF), fun f hf hn => h.fam f hf fun hF => hn (hg f hf hF)⟩
/-- What has turned since is new. -/
theorem Keep.fresh {F : Nat → Prop} {s s' s'' : St} (h : Keep No s s') (k : Keep F s' s'') (hF : ∀ f, F f → s.next ≤ f) (hw : Wf s) : Keep No s s'' :=
  ⟨Nat.le_trans h.next k.next, fun j e he hf => k.ent j e (h.ent j e he hf) fun hx => by have := hF _ hx; have := (hw.objs j e (ent?_some he).1).2; omega,
    fun f hf hn => (k.fam f (Nat.lt_of_lt_of_le hf h.next) fun hx => by have := hF _ hx; omega).trans (h.fam f hf hn)⟩

theorem cells?_ent {s : St} {i : Nat} {c : List Value} {f ep : Nat} {ro : Bool} (h : s.ent? i = some ⟨.cells c, f, ep, ro⟩) : s.cells? i = some c := by
  unfold St.cells?
  rw [h]; rfl
theorem Keep.cells {F : Nat → Prop} {s s' : St} (h : Keep F s s') {i : Nat} {c : List Value} (hc : s.cells? i = some c) (hf : ∀ e, s.ent? i = some e → ¬ F e.fam) : s'.cells? i = some c := by
  obtain ⟨e, h1, h2⟩ := cells?_eq hc
  have := h.ent i e h1 (hf e h1)
  unfold St.cells?
  rw [this]
  simp [h2, AObj.cells?]
theorem Keep.cellsNo {s s' : St} (h : Keep No s s') {i : Nat} {c : List Value} (hc : s.cells? i = some c) : s'.cells? i = some c := h.cells hc fun _ _ h => h

/-- An object of one's own: its family, what it holds, and it is its family's last. -/
structure Own (s : St) (i f : Nat) (c : List Value) : Prop where
  ent : ∃ ep, s.ent? i = some ⟨.cells c, f, ep, false⟩
  tip : (s.famOf f).2 = i

theorem Own.cells {s : St} {i f : Nat} {c : List Value} (h : Own s i f c) : s.cells? i = some c := let ⟨_, he⟩ := h.ent; cells?_ent he
theorem Own.lt {s : St} {i f : Nat} {c : List Value} (h : Own s i f c) (hw : Wf s) : i < s.next ∧ f < s.next := let ⟨_, he⟩ := h.ent; hw.objs i _ (ent?_some he).1
theorem Own.keep {F : Nat → Prop} {s s' : St} {i f : Nat} {c : List Value} (h : Own s i f c) (hw : Wf s) (hk : Keep F s s') (hF : ¬ F f) : Own s' i f c := by
  obtain ⟨ep, he⟩ := h.ent
  refine ⟨⟨ep, hk.ent i _ he hF⟩, ?_⟩
  have := hk.fam f (h.lt hw).2 hF
  unfold St.famOf
  rw [this]
  exact h.tip

theorem new_ent {s : St} (hw : Wf s) (o : AObj) (i : Nat) : (s.new o).ent? i = if i = s.next then some ⟨o, s.next, 0, false⟩ else s.ent? i := by
  have hn : s.fams.get s.next = none := by
    cases ho : s.fams.get s.next with
    | none => rfl
    | some e => exact absurd (hw.fams _ _ ho) (Nat.lt_irrefl _)
  rw [ent?_eq, new_objs]
  by_cases hi : i = s.next
  · rw [if_pos hi, if_pos hi]
    have : (s.new o).famOf s.next = (0, s.next) := famOf_none hn
    simp [this]
  · rw [if_neg hi, if_neg hi]; rfl

theorem new_ok {s : St} (hw : Wf s) (o : AObj) : Wf (s.new o) ∧ Keep No s (s.new o) := by
  have hn : s.fams.get s.next = none := by
    cases ho : s.fams.get s.next with
    | none => rfl
    | some e => exact absurd (hw.fams _ _ ho) (Nat.lt_irrefl _)
  refine ⟨⟨?_, ?_, ?_, ?_⟩, ⟨Nat.le_succ _, ?_, fun _ _ _ => rfl⟩⟩
  · intro i e he
    rw [new_objs] at he
    by_cases hi : i = s.next
    · rw [if_pos hi] at he; cases he; exact ⟨by rw [new_next]; omega, by rw [new_next]; simp⟩
    · rw [if_neg hi] at he; have := hw.objs i e he; rw [new_next]; omega
  · intro f p hp; exact Nat.lt_succ_of_lt (hw.fams f p hp)
  · intro i e he hf
    rw [new_ent hw] at he
    by_cases hi : i = s.next
    · rw [if_pos hi] at he; cases he; exact hi.symm
    · rw [if_neg hi] at he; exact hw.lone i e he hf
  · intro i e he
    rw [new_objs] at he
    by_cases hi : i = s.next
    · rw [if_pos hi] at he; cases he; exact Nat.zero_le _
    · rw [if_neg hi] at he; exact hw.eps i e he
  · intro j e he _
    rw [new_ent hw, if_neg (by have := (hw.objs j e (ent?_some he).1).1; omega)]; exact he
theorem new_own {s : St} (hw : Wf s) (c : List Value) : Own (s.new (.cells c)) s.next s.next c := by
  have hn : s.fams.get s.next = none := by
    cases ho : s.fams.get s.next with
    | none => rfl
    | some e => exact absurd (hw.fams _ _ ho) (Nat.lt_irrefl _)
  exact ⟨⟨0, by rw [new_ent hw, if_pos rfl]⟩, by rw [famOf_none (by rw [new_fams]; exact hn)]⟩

theorem new_cells_self {s : St} (hw : Wf s) (c : List Value) : (s.new (.cells c)).cells? s.next = some c := (new_own hw c).cells
theorem new_cells_old {s : St} (hw : Wf s) (o : AObj) {i : Nat} {c : List Value} (h : s.cells? i = some c) : (s.new o).cells? i = some c := (new_ok hw o).2.cellsNo h

/-- What an object of one's own holds is replaced. -/
theorem put_own {s : St} (hw : Wf s) {i f : Nat} {c : List Value} (ho : Own s i f c) (c' : List Value) : ∃ s', s.put i (.cells c') = some s' ∧ Wf s' ∧ s'.next = s.next ∧ Own s' i f c' ∧ Keep (fun g => g = f) s s' := by
  obtain ⟨ep, he⟩ := ho.ent
  have hp : s.put i (.cells c') = some (putFam s i (.cells c') ⟨.cells c, f, ep, false⟩ (s.fams.get f)) := by
    unfold St.put
    rw [he]; rfl
  have hF := (wf_rel hw (default : World)).put_fact (o := .cells c') he
  simp only at hF
  refine ⟨_, hp, ⟨?_, ?_, ?_, hF.eps⟩, hF.next, ⟨hF.self, ?_⟩, ⟨Nat.le_of_eq hF.next.symm, ?_, fun g _ hg => hF.fams g hg⟩⟩
  · intro j e hj
    rw [hF.next]
    by_cases hji : j = i
    · subst hji
      have := hF.obji e hj
      simp only at this
      rw [this]
      exact hw.objs j _ (ent?_some he).1
    · rw [hF.objs j hji] at hj; exact hw.objs j e hj
  · intro g p hg
    rw [hF.next]
    by_cases hgf : g = f
    · subst hgf; exact (hw.objs i _ (ent?_some he).1).2
    · rw [hF.fams g hgf] at hg; exact hw.fams g p hg
  · intro j e hj hn
    by_cases hji : j = i
    · subst hji
      obtain ⟨ep', hs⟩ := hF.self
      rw [hs] at hj; cases hj
      simp only at hn ⊢
      cases hff : s.fams.get f with
      | none => exact hw.lone j _ he hff
      | some p =>
        rw [hff] at hn
        have : (putFam s j (.cells c') ⟨.cells c, f, ep, false⟩ (some p)).fams.get f = some (p.1 + 1, j) := Trie.get_set_same ..
        rw [this] at hn; cases hn
    · obtain ⟨h1, h2⟩ := hF.back j e hji hj
      rw [hF.fams _ h2] at hn
      exact hw.lone j e h1 hn
  · cases hff : s.fams.get f with
    | none =>
      have hl := hw.lone i _ he hff
      have : (putFam s i (.cells c') ⟨.cells c, f, ep, false⟩ none).fams.get f = none := hff
      rw [famOf_none this]; exact hl
    | some p =>
      have : (putFam s i (.cells c') ⟨.cells c, f, ep, false⟩ (some p)).fams.get f = some (p.1 + 1, i) := Trie.get_set_same ..
      rw [famOf_some this]
  · intro j e hj hg
    exact hF.forth j e (fun x => by subst x; rw [he] at hj; cases hj; exact hg rfl) hj hg

/-- A slice of an object of one's own grows. -/
theorem grow_own {s : St} (hw : Wf s) {i f : Nat} {c : List Value} (ho : Own s i f c) (c' : List Value) : ∃ s', s.grown i false true c' = some s' ∧ Wf s' ∧ s'.next = s.next + 1 ∧ Own s' s.next f c' ∧ Keep (fun g => g = f) s s' := by
  obtain ⟨ep, he⟩ := ho.ent
  have hG := grow_fact (wf_rel hw (default : World)) (e := ⟨.cells c, f, ep, false⟩) (c := c') (E := (s.famOf f).1) (Nat.le_refl _)
  have hp : s.grown i false true c' = some ⟨s.objs.set s.next ⟨.cells c', f, (s.famOf f).1, false⟩, s.fams.set f ((s.famOf f).1, s.next), s.next + 1⟩ := by
    unfold St.grown
    simp only [ifB_false, he, optE_some]
    unfold grownFam
    have : (true && Nat.beq (s.famOf f).2 i) = true := by rw [ho.tip]; simp
    simp only [this, ifB_true]
  have hflt := (ho.lt hw).2
  refine ⟨_, hp, ⟨?_, ?_, ?_, hG.eps⟩, rfl, ⟨hG.self, ?_⟩, ⟨Nat.le_succ _, ?_, fun g _ hg => hG.fams g hg⟩⟩
  · intro j e hj
    show j < s.next + 1 ∧ e.fam < s.next + 1
    by_cases hjn : j = s.next
    · subst hjn
      have := hG.obji e hj
      simp only at this
      omega
    · rw [hG.objs j hjn] at hj; have := hw.objs j e hj; omega
  · intro g p hg
    show g < s.next + 1
    by_cases hgf : g = f
    · omega
    · rw [hG.fams g hgf] at hg; have := hw.fams g p hg; omega
  · intro j e hj hn
    by_cases hjn : j = s.next
    · subst hjn
      obtain ⟨ep', hs⟩ := hG.self
      rw [hs] at hj; cases hj
      obtain ⟨E, hE⟩ := hG.fam
      simp only at hn hE
      rw [hE] at hn; cases hn
    · obtain ⟨h1, h2⟩ := hG.back j e hjn hj
      by_cases hgf : e.fam = f
      · obtain ⟨E, hE⟩ := hG.fam
        simp only at hE
        rw [hgf, hE] at hn; cases hn
      · rw [hG.fams _ hgf] at hn
        exact hw.lone j e h1 hn
  · obtain ⟨E, hE⟩ := hG.fam
    simp only at hE
    rw [famOf_some hE]
  · intro j e hj hg
    exact hG.forth j e (fun x => by subst x; exact absurd (hw.objs _ e (ent?_some hj).1).1 (Nat.lt_irrefl _)) hj hg

end Go.AI
