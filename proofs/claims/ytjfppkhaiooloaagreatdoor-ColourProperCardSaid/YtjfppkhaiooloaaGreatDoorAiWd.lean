/- The abstract interpreter: regions that draw their order, in walks: they are run here in one order. -/
import Derived.Test.YtjfppkhaiooloaaGreatDoorAiXs
namespace Go.AI

/-- With enough fuel the region comes to something of which this is true. -/
def EvDr (E : Env) (rd : Option Nat) (all l : List AO) (log : List Seen) (fr : Fr) (s : St) (Q : Post) : Prop := ∃ N e fr' s', (∀ k, N ≤ k → drawnV (calls E (exec E k)) rd all l log fr s = some (e, fr', s')) ∧ Q e fr' s'

/-- Behind a panic in such a region. -/
def wForget (all : List AO) (fr : Fr) (Q : Post) : Post
  | .panic v, _, s => Q (.panic v) ⟨forget all fr.tm, fr.defers⟩ s
  | _, _, _ => False

noncomputable def wDr (E : Env) (Q : Post) (all : List AO) : List AO → List Seen → Fr → St → Prop
  | [], _, fr, s => Q .normal fr s
  | o :: os, log, fr, s => optE (wanted fr.tm o.guard) False fun w => ifB w
      (ifB (hardK o.op) (wOp E o.dst fr s (fun fr' s' => recheck o.again s' log = true ∧ wDr E Q all os log fr' s') (wForget all fr Q) o.op)
        (match o.op with
        | .op k f => optE (f fr.tm s) False fun p => wDr E Q all os (match k with | .reads => ⟨o.at_, f, fr.tm, p.1⟩ :: log | _ => log) (put fr o.dst p.1) p.2
        | _ => False))
      (wDr E Q all os log (put fr o.dst undef) s)

section
variable {E : Env} {rd : Option Nat} {Q : Post} {all : List AO}

theorem evDr_step {o : AO} {os : List AO} {log : List Seen} {fr : Fr} {s : St} (hw : wanted fr.tm o.guard = some true) (hh : hardK o.op = true)
    (h : ∃ N e fr' s', (∀ k, N ≤ k → hardDone all fr o.again log (drawnV (calls E (exec E k)) rd all os log) (operV (calls E (exec E k)) rd fr s o.dst o.op) = some (e, fr', s')) ∧ Q e fr' s') : EvDr E rd all (o :: os) log fr s Q := by
  obtain ⟨N, e, fr', s', h1, h2⟩ := h
  refine ⟨N, e, fr', s', fun k hk => ?_, h2⟩
  rw [drawnV_cons, hw, optE_some, ifB_true, hh, ifB_true]
  exact h1 k hk

theorem evDr_called {dst : Option Nat} {again : List Nat} {os : List AO} {log : List Seen} {fr : Fr} {r : CRes} {s1 : St} {M : Nat} {F : Nat → OptRan} (hF : ∀ k, M ≤ k → F k = called fr dst (some (r, s1)))
    (h : wRes dst fr (fun fr s => recheck again s log = true ∧ EvDr E rd all os log fr s Q) (wForget all fr Q) r s1) :
    ∃ N e fr' s', (∀ k, N ≤ k → hardDone all fr again log (drawnV (calls E (exec E k)) rd all os log) (F k) = some (e, fr', s')) ∧ Q e fr' s' := by
  cases r with
  | ret v =>
    obtain ⟨hr, N, e, fr', s', h1, h2⟩ := h
    refine ⟨M + N, e, fr', s', fun k hk => ?_, h2⟩
    rw [hF k (by omega)]
    show ifB (recheck again s1 log) _ none = _
    rw [hr]
    exact h1 k (by omega)
  | panic v =>
    refine ⟨M, .panic v, ⟨forget all fr.tm, fr.defers⟩, s1, fun k hk => ?_, h⟩
    rw [hF k hk]
    rfl

theorem wDr_sound : ∀ (l : List AO) (log : List Seen) (fr : Fr) (s : St), wDr E Q all l log fr s → EvDr E rd all l log fr s Q := by
  intro l
  induction l with
  | nil => intro log fr s h; exact ⟨0, .normal, fr, s, fun k _ => drawnV_nil .., h⟩
  | cons o os ih =>
    intro log fr s h
    simp only [wDr] at h
    rw [optE_true] at h
    obtain ⟨w, hw, h⟩ := h
    cases w with
    | false =>
      obtain ⟨N, e, fr', s', h1, h2⟩ := ih _ _ _ h
      refine ⟨N, e, fr', s', fun k hk => ?_, h2⟩
      rw [drawnV_cons, hw, optE_some, ifB_false]
      exact h1 k hk
    | true =>
      rw [ifB_true] at h
      cases hh : hardK o.op with
      | true =>
        rw [hh, ifB_true] at h
        refine evDr_step hw hh ?_
        generalize o.op = op at h hh
        cases op with
        | op k f =>
          have h : optE (f fr.tm s) False (fun p => recheck o.again p.2 log = true ∧ wDr E Q all os log (put fr o.dst p.1) p.2) := h
          rw [optE_true] at h
          obtain ⟨p, hp, hr, h⟩ := h
          obtain ⟨N, e, fr', s', h1, h2⟩ := ih _ _ _ h
          refine ⟨N, e, fr', s', fun k' hk => ?_, h2⟩
          show hardDone all fr o.again log _ (valued fr o.dst (f fr.tm s)) = _
          rw [hp]
          show ifB (recheck o.again p.2 log) _ none = _
          rw [hr]
          exact h1 k' hk
        | callF f xs =>
          have h : optE (evs fr.tm xs) False (fun vs => EvCall E f vs s (wRes o.dst fr (fun fr' s' => recheck o.again s' log = true ∧ wDr E Q all os log fr' s') (wForget all fr Q))) := h
          rw [optE_true] at h
          obtain ⟨vs, hv, N, r, s1, h1, h2⟩ := h
          refine evDr_called (dst := o.dst) (fr := fr) (M := N) (r := r) (s1 := s1) (F := fun k => operV (calls E (exec E k)) rd fr s o.dst (.callF f xs)) (fun k hk => ?_) ?_
          · show (optR (evs fr.tm xs) fun vs => called fr o.dst (callV E (exec E k) f vs s)) = _
            rw [hv]
            show called fr o.dst (callV E (exec E k) f vs s) = _
            rw [h1 k hk]
          · cases r with
            | ret v => exact ⟨h2.1, ih _ _ _ h2.2⟩
            | panic v => exact h2
        | call x xs =>
          have h : optE (ev fr.tm x) False (fun f => optE (evs fr.tm xs) False (fun vs => EvVal E f vs s (wRes o.dst fr (fun fr' s' => recheck o.again s' log = true ∧ wDr E Q all os log fr' s') (wForget all fr Q)))) := h
          rw [optE_true] at h
          obtain ⟨f, hf, h⟩ := h
          rw [optE_true] at h
          obtain ⟨vs, hv, N, r, s1, h1, h2⟩ := h
          refine evDr_called (dst := o.dst) (fr := fr) (M := N) (r := r) (s1 := s1) (F := fun k => operV (calls E (exec E k)) rd fr s o.dst (.call x xs)) (fun k hk => ?_) ?_
          · show (optR (ev fr.tm x) fun f => optR (evs fr.tm xs) fun vs => called fr o.dst (callVal E (exec E k) f vs s)) = _
            rw [hf, hv]
            show called fr o.dst (callVal E (exec E k) f vs s) = _
            rw [h1 k hk]
          · cases r with
            | ret v => exact ⟨h2.1, ih _ _ _ h2.2⟩
            | panic v => exact h2
        | invoke n x xs =>
          have h : optE (ev fr.tm x) False (fun f => optE (evs fr.tm xs) False (fun vs => EvInv E n f vs s (wRes o.dst fr (fun fr' s' => recheck o.again s' log = true ∧ wDr E Q all os log fr' s') (wForget all fr Q)))) := h
          rw [optE_true] at h
          obtain ⟨f, hf, h⟩ := h
          rw [optE_true] at h
          obtain ⟨vs, hv, N, r, s1, h1, h2⟩ := h
          refine evDr_called (dst := o.dst) (fr := fr) (M := N) (r := r) (s1 := s1) (F := fun k => operV (calls E (exec E k)) rd fr s o.dst (.invoke n x xs)) (fun k hk => ?_) ?_
          · show (optR (ev fr.tm x) fun f => optR (evs fr.tm xs) fun vs => called fr o.dst (invokeV E (exec E k) n f vs s)) = _
            rw [hf, hv]
            show called fr o.dst (invokeV E (exec E k) n f vs s) = _
            rw [h1 k hk]
          · cases r with
            | ret v => exact ⟨h2.1, ih _ _ _ h2.2⟩
            | panic v => exact h2
        | panic x => exact absurd h id
        | defer f xs => exact absurd h id
        | recover => exact absurd h id
      | false =>
        rw [hh, ifB_false] at h
        cases hop : o.op with
        | op k f =>
          rw [hop] at h
          simp only at h
          rw [optE_true] at h
          obtain ⟨p, hp, h⟩ := h
          obtain ⟨N, e, fr', s', h1, h2⟩ := ih _ _ _ h
          refine ⟨N, e, fr', s', fun k' hk => ?_, h2⟩
          rw [drawnV_cons, hw, optE_some, ifB_true, hh, ifB_false]
          unfold softOp
          simp only [hop]
          unfold softV
          rw [hp, optE_some]
          have := h1 k' hk
          cases k <;> exact this
        | _ => rw [hop] at h; exact absurd h id

theorem ev_drawn {l : List AO} {fr : Fr} {s : St} (h : wDr E Q l l [] fr s) : Ev E rd (.drawn l) fr s Q := by
  obtain ⟨N, e, fr', s', h1, h2⟩ := wDr_sound (rd := rd) l [] fr s h
  refine ⟨N + 1, e, fr', s', fun k hk => ?_, h2⟩
  obtain ⟨k, rfl⟩ : ∃ j, k = j + 1 := ⟨k - 1, by omega⟩
  exact h1 k (by omega)

/-! ## For walks -/
/-- Behind an operation that is not hard. -/
noncomputable def dV (E : Env) (Q : Post) (all os : List AO) (k : Kind) (n : Nat) (f : OpF) (log : List Seen) (dst : Option Nat) (fr : Fr) (r : VS) : Prop :=
  optE r False fun p => wDr E Q all os (match k with | .reads => ⟨n, f, fr.tm, p.1⟩ :: log | _ => log) (put fr dst p.1) p.2
/-- Behind a guard. -/
noncomputable def dG (E : Env) (Q : Post) (all : List AO) (o : AO) (os : List AO) (log : List Seen) (fr : Fr) (s : St) (r : Option Bool) : Prop := optE r False fun w => ifB w
      (ifB (hardK o.op) (wOp E o.dst fr s (fun fr' s' => recheck o.again s' log = true ∧ wDr E Q all os log fr' s') (wForget all fr Q) o.op)
        (match o.op with
        | .op k f => optE (f fr.tm s) False fun p => wDr E Q all os (match k with | .reads => ⟨o.at_, f, fr.tm, p.1⟩ :: log | _ => log) (put fr o.dst p.1) p.2
        | _ => False))
      (wDr E Q all os log (put fr o.dst undef) s)
/-- Behind a hard operation. -/
noncomputable def dK (E : Env) (Q : Post) (all os : List AO) (again : List Nat) (log : List Seen) : Fr → St → Prop := fun fr s => recheck again s log = true ∧ wDr E Q all os log fr s

variable {os : List AO} {log : List Seen} {fr : Fr} {s : St}
@[go_sem] theorem wDr_nil : wDr E Q all [] log fr s = Q .normal fr s := (rfl)
@[go_sem] theorem wDr_cons (o : AO) : wDr E Q all (o :: os) log fr s = dG E Q all o os log fr s (wanted fr.tm o.guard) := (rfl)
@[go_sem] theorem dG_false (o : AO) : dG E Q all o os log fr s (some false) = wDr E Q all os log (put fr o.dst undef) s := (rfl)
@[go_sem] theorem dG_quiet (n : Nat) (dst : Option Nat) (g : Option (Nat × Bool)) (f : OpF) (ag : List Nat) : dG E Q all ⟨n, dst, g, .op .quiet f, ag⟩ os log fr s (some true) = dV E Q all os .quiet n f log dst fr (f fr.tm s) := (rfl)
@[go_sem] theorem dG_reads (n : Nat) (dst : Option Nat) (g : Option (Nat × Bool)) (f : OpF) (ag : List Nat) : dG E Q all ⟨n, dst, g, .op .reads f, ag⟩ os log fr s (some true) = dV E Q all os .reads n f log dst fr (f fr.tm s) := (rfl)
@[go_sem] theorem dG_hard (n : Nat) (dst : Option Nat) (g : Option (Nat × Bool)) (f : OpF) (ag : List Nat) : dG E Q all ⟨n, dst, g, .op .hard f, ag⟩ os log fr s (some true) = wOp E dst fr s (dK E Q all os ag log) (wForget all fr Q) (.op .hard f) := (rfl)
@[go_sem] theorem dG_callF (n : Nat) (dst : Option Nat) (g : Option (Nat × Bool)) (f : FuncId) (xs : List AX) (ag : List Nat) : dG E Q all ⟨n, dst, g, .callF f xs, ag⟩ os log fr s (some true) = wOp E dst fr s (dK E Q all os ag log) (wForget all fr Q) (.callF f xs) := (rfl)
@[go_sem] theorem dG_call (n : Nat) (dst : Option Nat) (g : Option (Nat × Bool)) (f : AX) (xs : List AX) (ag : List Nat) : dG E Q all ⟨n, dst, g, .call f xs, ag⟩ os log fr s (some true) = wOp E dst fr s (dK E Q all os ag log) (wForget all fr Q) (.call f xs) := (rfl)
@[go_sem] theorem dG_inv (n : Nat) (dst : Option Nat) (g : Option (Nat × Bool)) (nm : String) (x : AX) (xs : List AX) (ag : List Nat) : dG E Q all ⟨n, dst, g, .invoke nm x xs, ag⟩ os log fr s (some true) = wOp E dst fr s (dK E Q all os ag log) (wForget all fr Q) (.invoke nm x xs) := (rfl)
@[go_sem] theorem dV_quiet (n : Nat) (f : OpF) (dst : Option Nat) (v : Value) : dV E Q all os .quiet n f log dst fr (some (v, s)) = wDr E Q all os log (put fr dst v) s := (rfl)
@[go_sem] theorem dV_reads (n : Nat) (f : OpF) (dst : Option Nat) (v : Value) : dV E Q all os .reads n f log dst fr (some (v, s)) = wDr E Q all os (⟨n, f, fr.tm, v⟩ :: log) (put fr dst v) s := (rfl)
@[go_sem] theorem dK_nil : dK E Q all os [] log fr s = wDr E Q all os log fr s := by
  show ((true = true) ∧ _) = _
  simp
theorem dK_cons (ag : List Nat) : dK E Q all os ag log fr s = (recheck ag s log = true ∧ wDr E Q all os log fr s) := (rfl)

end
end Go.AI
