/- The abstract interpreter: what a piece of code comes to, with enough fuel: a calculus for walks. -/
import Derived.Test.YtjfppkhaiooloaaGreatDoorAiB
namespace Go.AI

abbrev Post := AExit → Fr → St → Prop

/-- With enough fuel the code comes to something of which this is true. -/
def Ev (E : Env) (rd : Option Nat) (c : AC) (fr : Fr) (s : St) (Q : Post) : Prop := ∃ N e fr' s', (∀ k, N ≤ k → exec E k rd c fr s = some (e, fr', s')) ∧ Q e fr' s'

def EvOps (E : Env) (rd : Option Nat) (l : List AO) (fr : Fr) (s : St) (Q : Post) : Prop := ∃ N e fr' s', (∀ k, N ≤ k → opsV (calls E (exec E k)) rd l fr s = some (e, fr', s')) ∧ Q e fr' s'

/-- With enough fuel the call comes to something of which this is true. -/
def EvCall (E : Env) (f : FuncId) (args : List Value) (s : St) (R : CRes → St → Prop) : Prop := ∃ N r s', (∀ k, N ≤ k → callV E (exec E k) f args s = some (r, s')) ∧ R r s'

def EvVal (E : Env) (f : Value) (args : List Value) (s : St) (R : CRes → St → Prop) : Prop := ∃ N r s', (∀ k, N ≤ k → callVal E (exec E k) f args s = some (r, s')) ∧ R r s'

def EvInv (E : Env) (name : String) (x : Value) (args : List Value) (s : St) (R : CRes → St → Prop) : Prop := ∃ N r s', (∀ k, N ≤ k → invokeV E (exec E k) name x args s = some (r, s')) ∧ R r s'

section
variable {E : Env} {rd : Option Nat} {fr : Fr} {s : St} {Q : Post}

theorem Ev.mono {c : AC} {Q' : Post} (h : Ev E rd c fr s Q) (hq : ∀ e fr s, Q e fr s → Q' e fr s) : Ev E rd c fr s Q' :=
  let ⟨N, e, fr', s', h1, h2⟩ := h; ⟨N, e, fr', s', h1, hq _ _ _ h2⟩
theorem EvCall.mono {f : FuncId} {args : List Value} {R R' : CRes → St → Prop} (h : EvCall E f args s R) (hr : ∀ r s, R r s → R' r s) : EvCall E f args s R' :=
  let ⟨N, r, s', h1, h2⟩ := h; ⟨N, r, s', h1, hr _ _ h2⟩

/-! ## What must be shown of code -/

/-- Where a call's answer goes. -/
def wRes (dst : Option Nat) (fr : Fr) (K : Fr → St → Prop) (Q : Post) : CRes → St → Prop
  | .ret v, s => K (put fr dst v) s
  | .panic v, s => Q (.panic v) fr s

noncomputable def wOp (E : Env) (dst : Option Nat) (fr : Fr) (s : St) (K : Fr → St → Prop) (Q : Post) : AOp → Prop
  | .op _ f => optE (f fr.tm s) False fun p => K (put fr dst p.1) p.2
  | .callF f xs => optE (evs fr.tm xs) False fun vs => EvCall E f vs s (wRes dst fr K Q)
  | .call x xs => optE (ev fr.tm x) False fun f => optE (evs fr.tm xs) False fun vs => EvVal E f vs s (wRes dst fr K Q)
  | .invoke n x xs => optE (ev fr.tm x) False fun v => optE (evs fr.tm xs) False fun vs => EvInv E n v vs s (wRes dst fr K Q)
  | _ => False

noncomputable def wOps (E : Env) (Q : Post) : List AO → Fr → St → Prop
  | [], fr, s => Q .normal fr s
  | o :: os, fr, s => optE (wanted fr.tm o.guard) False fun w => ifB w (wOp E o.dst fr s (wOps E Q os) Q o.op) (wOps E Q os (put fr o.dst undef) s)

theorem optE_true {α : Type} {o : Option α} {k : α → Prop} : optE o False k ↔ ∃ x, o = some x ∧ k x := by
  cases o <;> simp

theorem evOps_cons {o : AO} {os : List AO} {w : Bool} (hw : wanted fr.tm o.guard = some w) (h : if w then ∃ N e fr' s', (∀ k, N ≤ k → seqV (operV (calls E (exec E k)) rd fr s o.dst o.op) (opsV (calls E (exec E k)) rd os) = some (e, fr', s')) ∧ Q e fr' s' else EvOps E rd os (put fr o.dst undef) s Q) : EvOps E rd (o :: os) fr s Q := by
  cases w with
  | true =>
    obtain ⟨N, e, fr', s', h1, h2⟩ := h
    refine ⟨N, e, fr', s', fun k hk => ?_, h2⟩
    rw [opsV_cons, hw, optE_some, ifB_true]
    exact h1 k hk
  | false =>
    obtain ⟨N, e, fr', s', h1, h2⟩ := h
    refine ⟨N, e, fr', s', fun k hk => ?_, h2⟩
    rw [opsV_cons, hw, optE_some, ifB_false]
    exact h1 k hk

/-- Behind a call. -/
theorem ev_called {dst : Option Nat} {os : List AO} {r : CRes} {s1 : St} {M : Nat} {F : Nat → OptRan} (hF : ∀ k, M ≤ k → F k = called fr dst (some (r, s1))) (h : wRes dst fr (fun fr s => EvOps E rd os fr s Q) Q r s1) :
    ∃ N e fr' s', (∀ k, N ≤ k → seqV (F k) (opsV (calls E (exec E k)) rd os) = some (e, fr', s')) ∧ Q e fr' s' := by
  cases r with
  | ret v =>
    obtain ⟨N, e, fr', s', h1, h2⟩ := h
    refine ⟨M + N, e, fr', s', fun k hk => ?_, h2⟩
    rw [hF k (by omega)]
    exact h1 k (by omega)
  | panic v =>
    refine ⟨M, .panic v, fr, s1, fun k hk => ?_, h⟩
    rw [hF k hk]
    rfl

theorem wOps_sound : ∀ (l : List AO) (fr : Fr) (s : St), wOps E Q l fr s → EvOps E rd l fr s Q := by
  intro l
  induction l with
  | nil => intro fr s h; exact ⟨0, .normal, fr, s, fun k _ => opsV_nil .., h⟩
  | cons o os ih =>
    intro fr s h
    simp only [wOps] at h
    rw [optE_true] at h
    obtain ⟨w, hw, h⟩ := h
    refine evOps_cons hw ?_
    cases w with
    | false => exact ih _ _ h
    | true =>
      simp only [if_true]
      have h : wOp E o.dst fr s (wOps E Q os) Q o.op := h
      generalize o.op = op at h
      cases op with
      | op k f =>
        have h : optE (f fr.tm s) False (fun p => wOps E Q os (put fr o.dst p.1) p.2) := h
        rw [optE_true] at h
        obtain ⟨p, hp, h⟩ := h
        obtain ⟨N, e, fr', s', h1, h2⟩ := ih _ _ h
        refine ⟨N, e, fr', s', fun k' hk => ?_, h2⟩
        show seqV (valued fr o.dst (f fr.tm s)) _ = _
        rw [hp]
        exact h1 k' hk
      | callF f xs =>
        have h : optE (evs fr.tm xs) False (fun vs => EvCall E f vs s (wRes o.dst fr (wOps E Q os) Q)) := h
        rw [optE_true] at h
        obtain ⟨vs, hv, N, r, s1, h1, h2⟩ := h
        refine ev_called (dst := o.dst) (fr := fr) (M := N) (r := r) (s1 := s1) (F := fun k => operV (calls E (exec E k)) rd fr s o.dst (.callF f xs)) (fun k hk => ?_) ?_
        · show (optR (evs fr.tm xs) fun vs => called fr o.dst (callV E (exec E k) f vs s)) = _
          rw [hv]
          show called fr o.dst (callV E (exec E k) f vs s) = _
          rw [h1 k hk]
        · cases r with
          | ret v => exact ih _ _ h2
          | panic v => exact h2
      | call x xs =>
        have h : optE (ev fr.tm x) False (fun f => optE (evs fr.tm xs) False (fun vs => EvVal E f vs s (wRes o.dst fr (wOps E Q os) Q))) := h
        rw [optE_true] at h
        obtain ⟨f, hf, h⟩ := h
        rw [optE_true] at h
        obtain ⟨vs, hv, N, r, s1, h1, h2⟩ := h
        refine ev_called (dst := o.dst) (fr := fr) (M := N) (r := r) (s1 := s1) (F := fun k => operV (calls E (exec E k)) rd fr s o.dst (.call x xs)) (fun k hk => ?_) ?_
        · show (optR (ev fr.tm x) fun f => optR (evs fr.tm xs) fun vs => called fr o.dst (callVal E (exec E k) f vs s)) = _
          rw [hf, hv]
          show called fr o.dst (callVal E (exec E k) f vs s) = _
          rw [h1 k hk]
        · cases r with
          | ret v => exact ih _ _ h2
          | panic v => exact h2
      | invoke n x xs =>
        have h : optE (ev fr.tm x) False (fun f => optE (evs fr.tm xs) False (fun vs => EvInv E n f vs s (wRes o.dst fr (wOps E Q os) Q))) := h
        rw [optE_true] at h
        obtain ⟨f, hf, h⟩ := h
        rw [optE_true] at h
        obtain ⟨vs, hv, N, r, s1, h1, h2⟩ := h
        refine ev_called (dst := o.dst) (fr := fr) (M := N) (r := r) (s1 := s1) (F := fun k => operV (calls E (exec E k)) rd fr s o.dst (.invoke n x xs)) (fun k hk => ?_) ?_
        · show (optR (ev fr.tm x) fun f => optR (evs fr.tm xs) fun vs => called fr o.dst (invokeV E (exec E k) n f vs s)) = _
          rw [hf, hv]
          show called fr o.dst (invokeV E (exec E k) n f vs s) = _
          rw [h1 k hk]
        · cases r with
          | ret v => exact ih _ _ h2
          | panic v => exact h2
      | panic x => exact absurd h id
      | defer f xs => exact absurd h id
      | recover => exact absurd h id

/-- On behind a piece of code. -/
def wThen (K : Fr → St → Prop) (Q : Post) : Post
  | .normal, fr, s => K fr s
  | e, fr, s => Q e fr s

/-- Behind a block. -/
noncomputable def wBlock (id : Nat) (Q : Post) : Post
  | .exit j, fr, s => ifB (Nat.beq j id) (Q .normal fr s) (Q (.exit j) fr s)
  | e, fr, s => Q e fr s

theorem ev_skip (h : Q .normal fr s) : Ev E rd .skip fr s Q := ⟨1, .normal, fr, s, fun k hk => by
  obtain ⟨k, rfl⟩ : ∃ j, k = j + 1 := ⟨k - 1, by omega⟩
  rfl, h⟩
theorem ev_ret (h : Q .ret fr s) : Ev E rd .ret fr s Q := ⟨1, .ret, fr, s, fun k hk => by
  obtain ⟨k, rfl⟩ : ∃ j, k = j + 1 := ⟨k - 1, by omega⟩
  rfl, h⟩
theorem ev_exit {id : Nat} (h : Q (.exit id) fr s) : Ev E rd (.exit id) fr s Q := ⟨1, .exit id, fr, s, fun k hk => by
  obtain ⟨k, rfl⟩ : ∃ j, k = j + 1 := ⟨k - 1, by omega⟩
  rfl, h⟩
theorem ev_ops {l : List AO} (h : EvOps E rd l fr s Q) : Ev E rd (.ops l) fr s Q := by
  obtain ⟨N, e, fr', s', h1, h2⟩ := h
  refine ⟨N + 1, e, fr', s', fun k hk => ?_, h2⟩
  obtain ⟨k, rfl⟩ : ∃ j, k = j + 1 := ⟨k - 1, by omega⟩
  exact h1 k (by omega)
theorem ev_seq {a b : AC} (h : Ev E rd a fr s (wThen (fun fr s => Ev E rd b fr s Q) Q)) : Ev E rd (.seq a b) fr s Q := by
  obtain ⟨N, e, fr', s', h1, h2⟩ := h
  have stop : ∀ e', e = e' → (∀ k, seqV (some (e', fr', s')) k = some (e', fr', s')) → Q e' fr' s' → Ev E rd (.seq a b) fr s Q := by
    rintro e' rfl hs hq
    refine ⟨N + 1, e, fr', s', fun k hk => ?_, hq⟩
    obtain ⟨k, rfl⟩ : ∃ j, k = j + 1 := ⟨k - 1, by omega⟩
    show seqV (exec E k rd a fr s) (exec E k rd b) = _
    rw [h1 k (by omega), hs]
  cases e with
  | normal =>
    obtain ⟨M, e2, fr2, s2, h3, h4⟩ := h2
    refine ⟨N + M + 1, e2, fr2, s2, fun k hk => ?_, h4⟩
    obtain ⟨k, rfl⟩ : ∃ j, k = j + 1 := ⟨k - 1, by omega⟩
    show seqV (exec E k rd a fr s) (exec E k rd b) = _
    rw [h1 k (by omega)]
    exact h3 k (by omega)
  | exit id => exact stop _ rfl (fun _ => rfl) h2
  | ret => exact stop _ rfl (fun _ => rfl) h2
  | panic v => exact stop _ rfl (fun _ => rfl) h2
theorem ev_cond {x : AX} {a b : AC} {t : Bool} (hx : ev fr.tm x = some (.bool t)) (h : if t then Ev E rd a fr s Q else Ev E rd b fr s Q) : Ev E rd (.cond x a b) fr s Q := by
  have go : ∀ c, Ev E rd c fr s Q → (∀ k, exec E (k + 1) rd (.cond x a b) fr s = exec E k rd c fr s) → Ev E rd (.cond x a b) fr s Q := by
    rintro c ⟨N, e, fr', s', h1, h2⟩ hk
    refine ⟨N + 1, e, fr', s', fun k hkk => ?_, h2⟩
    obtain ⟨k, rfl⟩ : ∃ j, k = j + 1 := ⟨k - 1, by omega⟩
    rw [hk]
    exact h1 k (by omega)
  cases t with
  | true => exact go a h fun k => by show (optR (ev fr.tm x) fun v => condV v _ _) = _; rw [hx]; rfl
  | false => exact go b h fun k => by show (optR (ev fr.tm x) fun v => condV v _ _) = _; rw [hx]; rfl
theorem ev_block {id : Nat} {b : AC} (h : Ev E rd b fr s (wBlock id Q)) : Ev E rd (.block id b) fr s Q := by
  obtain ⟨N, e, fr', s', h1, h2⟩ := h
  have stop : ∀ e', blockV id (some (e, fr', s')) = some (e', fr', s') → Q e' fr' s' → Ev E rd (.block id b) fr s Q := by
    intro e' hs hq
    refine ⟨N + 1, e', fr', s', fun k hk => ?_, hq⟩
    obtain ⟨k, rfl⟩ : ∃ j, k = j + 1 := ⟨k - 1, by omega⟩
    show blockV id (exec E k rd b fr s) = _
    rw [h1 k (by omega), hs]
  cases e with
  | normal => exact stop _ rfl h2
  | exit j =>
    have h2 : ifB (Nat.beq j id) (Q .normal fr' s') (Q (.exit j) fr' s') := h2
    cases hb : Nat.beq j id with
    | true => rw [hb] at h2; exact stop .normal (by show ifB (Nat.beq j id) _ _ = _; rw [hb]; rfl) h2
    | false => rw [hb] at h2; exact stop (.exit j) (by show ifB (Nat.beq j id) _ _ = _; rw [hb]; rfl) h2
  | ret => exact stop _ rfl h2
  | panic v => exact stop _ rfl h2
/-- A loop, by what is left of a measure. -/
theorem ev_loop {b : AC} (I : Nat → Fr → St → Prop) {n : Nat} (h0 : I n fr s) (hb : ∀ n fr s, I n fr s → Ev E rd b fr s (wThen (fun fr' s' => ∃ m, m < n ∧ I m fr' s') Q)) : Ev E rd (.loop b) fr s Q := by
  induction n using Nat.strongRecOn generalizing fr s with
  | _ n ih =>
    obtain ⟨N, e, fr', s', h1, h2⟩ := hb n fr s h0
    have stop : ∀ e', e = e' → (∀ k, seqV (some (e', fr', s')) k = some (e', fr', s')) → Q e' fr' s' → Ev E rd (.loop b) fr s Q := by
      rintro e' rfl hs hq
      refine ⟨N + 1, e, fr', s', fun k hk => ?_, hq⟩
      obtain ⟨k, rfl⟩ : ∃ j, k = j + 1 := ⟨k - 1, by omega⟩
      show seqV (exec E k rd b fr s) (exec E k rd (.loop b)) = _
      rw [h1 k (by omega), hs]
    cases e with
    | normal =>
      obtain ⟨m, hm, hI⟩ := h2
      obtain ⟨M, e2, fr2, s2, h3, h4⟩ := ih m hm hI
      refine ⟨N + M + 1, e2, fr2, s2, fun k hk => ?_, h4⟩
      obtain ⟨k, rfl⟩ : ∃ j, k = j + 1 := ⟨k - 1, by omega⟩
      show seqV (exec E k rd b fr s) (exec E k rd (.loop b)) = _
      rw [h1 k (by omega)]
      exact h3 k (by omega)
    | exit id => exact stop _ rfl (fun _ => rfl) h2
    | ret => exact stop _ rfl (fun _ => rfl) h2
    | panic v => exact stop _ rfl (fun _ => rfl) h2

/-- What must be shown of code without loops (a loop is left as it is). -/
noncomputable def w (E : Env) (rd : Option Nat) : AC → Post → Fr → St → Prop
  | .skip, Q, fr, s => Q .normal fr s
  | .ops l, Q, fr, s => wOps E Q l fr s
  | .seq a b, Q, fr, s => w E rd a (wThen (w E rd b Q) Q) fr s
  | .cond x a b, Q, fr, s => optE (ev fr.tm x) False fun v => match v with
    | .bool t => ifB t (w E rd a Q fr s) (w E rd b Q fr s)
    | _ => False
  | .block id b, Q, fr, s => w E rd b (wBlock id Q) fr s
  | .exit id, Q, fr, s => Q (.exit id) fr s
  | .ret, Q, fr, s => Q .ret fr s
  | c, Q, fr, s => Ev E rd c fr s Q

theorem w_sound : ∀ (c : AC) (Q : Post) (fr : Fr) (s : St), w E rd c Q fr s → Ev E rd c fr s Q := by
  intro c
  induction c with
  | skip => intro Q fr s h; exact ev_skip h
  | ops l => intro Q fr s h; exact ev_ops (wOps_sound l fr s h)
  | drawn l => intro Q fr s h; exact h
  | seq a b iha ihb =>
    intro Q fr s h
    refine ev_seq ((iha _ fr s h).mono ?_)
    intro e fr' s' h'
    cases e with
    | normal => exact ihb _ _ _ h'
    | exit id => exact h'
    | ret => exact h'
    | panic v => exact h'
  | cond x a b iha ihb =>
    intro Q fr s h
    have h : optE (ev fr.tm x) False (fun v => match v with | .bool t => ifB t (w E rd a Q fr s) (w E rd b Q fr s) | _ => False) := h
    rw [optE_true] at h
    obtain ⟨v, hv, h⟩ := h
    cases v <;> simp only at h <;> try (exact absurd h id)
    rename_i t
    refine ev_cond hv ?_
    cases t
    · exact ihb _ _ _ h
    · exact iha _ _ _ h
  | block id b ih => intro Q fr s h; exact ev_block (ih _ _ _ h)
  | loop b _ => intro Q fr s h; exact h
  | range g k => intro Q fr s h; exact h
  | exit id => intro Q fr s h; exact ev_exit h
  | ret => intro Q fr s h; exact ev_ret h

/-- What is handed back by a function whose frame has no deferred calls. -/
noncomputable def wEnd (F : AF) (R : CRes → St → Prop) : Post
  | .normal, fr, s => fr.defers = [] ∧ optE (resultsV fr.tm s F.results) False fun vs => R (.ret (oneOf vs)) s
  | .ret, fr, s => fr.defers = [] ∧ optE (resultsV fr.tm s F.results) False fun vs => R (.ret (oneOf vs)) s
  | .panic v, fr, s => fr.defers = [] ∧ R (.panic v) s
  | .exit _, _, _ => False

theorem evCall_of {f : FuncId} {args : List Value} {F : AF} {R : CRes → St → Prop} (hs : E.spec f args s = none) (hF : E.fn f = some F) (h : Ev E none F.body (enter args) s (wEnd F R)) : EvCall E f args s R := by
  obtain ⟨N, e, fr', s', h1, h2⟩ := h
  have hc : ∀ k, N ≤ k → callV E (exec E k) f args s = leftV E (exec E k) F (some (e, fr', s')) := by
    intro k hk
    unfold callV callBody
    rw [hs, hF]
    show leftV E (exec E k) F (exec E k none F.body (enter args) s) = _
    rw [h1 k hk]
  have fin : ∀ (p : Option Value) (r : CRes), fr'.defers = [] → (match p with | some v => some (CRes.panic v, s') | none => (match resultsV fr'.tm s' F.results with | some vs => some (CRes.ret (oneOf vs), s') | none => none)) = some (r, s') →
      (∀ k, leftV E (exec E k) F (some (e, fr', s')) = doneV E (exec E k) F fr' p s') → R r s' → EvCall E f args s R := by
    intro p r hd hr hl hR
    refine ⟨N, r, s', fun k hk => ?_, hR⟩
    rw [hc k hk, hl k]
    unfold doneV
    rw [hd]
    show (match (some (p, s') : Option (Option Value × St)) with | some q => _ | none => none) = _
    exact hr
  cases e with
  | normal =>
    obtain ⟨hd, h2⟩ := h2
    rw [optE_true] at h2
    obtain ⟨vs, hv, hR⟩ := h2
    exact fin none _ hd (by simp only [hv]) (fun _ => rfl) hR
  | ret =>
    obtain ⟨hd, h2⟩ := h2
    rw [optE_true] at h2
    obtain ⟨vs, hv, hR⟩ := h2
    exact fin none _ hd (by simp only [hv]) (fun _ => rfl) hR
  | panic v =>
    obtain ⟨hd, hR⟩ := h2
    exact fin (some v) _ hd rfl (fun _ => rfl) hR
  | exit id => exact h2.elim

/-- A call that is known. -/
theorem evCall_spec {f : FuncId} {args : List Value} {R : CRes → St → Prop} {r : CRes} {s' : St} (hs : E.spec f args s = some (some (r, s'))) (hR : R r s') : EvCall E f args s R :=
  ⟨0, r, s', fun k _ => by unfold callV; rw [hs]; rfl, hR⟩

end
end Go.AI
