/- The abstract interpreter: slices, for walks. -/
import Derived.Test.YtjfppkhaiooloaaGreatDoorAiH
namespace Go.AI

def blk : Value → Nat
  | .slice (some a) _ _ => a.block
  | _ => 0
def offs : Value → Nat
  | .slice (some a) _ _ => a.off
  | _ => 0

/-- A slice of `n` elements of `size` cells each shows these cells. -/
structure Shows (s : St) (v : Value) (size n : Nat) (cs : List Value) : Prop where
  len : cs.length = n * size
  at_ : ∃ a cap, v = .slice a n cap ∧ n ≤ cap ∧ addrSize a size = true ∧ (match a with
    | none => n = 0 ∧ cap = 0
    | some a => ∃ c, s.cells? a.block = some c ∧ sub c a.off (n * size) = some cs)

theorem sub_get {c cs : List Value} {off n j : Nat} (h : sub c off n = some cs) (hj : j < n) : c[off + j]? = cs[j]? := by
  obtain ⟨h1, rfl, _⟩ := sub_eq h
  rw [List.getElem?_take_of_lt hj, List.getElem?_drop]

theorem sub_sub {c cs : List Value} {off n j m : Nat} (h : sub c off n = some cs) (hj : j + m ≤ n) : sub c (off + j) m = some ((cs.drop j).take m) := by
  obtain ⟨h1, rfl, _⟩ := sub_eq h
  unfold sub
  have : Nat.ble (off + j + m) c.length = true := by rw [Nat.ble_eq]; omega
  rw [this, ifB_true, List.drop_take, List.drop_drop, List.take_take]
  congr 3
  omega

section
variable {s : St} {v : Value} {size n : Nat} {cs : List Value}

theorem Shows.oneCell (h : Shows s v size n cs) : AI.oneCell v = true := by
  obtain ⟨a, cap, rfl, _⟩ := h.at_
  rfl
theorem Shows.lenV (h : Shows s v size n cs) (s' : St) : lenV s' .slice v = some (.int .i64 n, s') := by
  obtain ⟨a, cap, rfl, _⟩ := h.at_
  exact lenV_slice s' a n cap

theorem Shows.idx (h : Shows s v size n cs) {k : Int} (h0 : 0 ≤ k) (h1 : k < n) (s' : St) (kd : IntKind) : idxSV s' size v (.int kd k) = some (.pointer (some ⟨blk v, offs v + k.toNat * size, none⟩), s') := by
  obtain ⟨a, cap, rfl, _, _, ha⟩ := h.at_
  cases a with
  | none => simp only at ha; omega
  | some a => exact idxSV_in s' size h0 h1

theorem Shows.cell (h : Shows s v size n cs) {j : Nat} {x : Value} (hx : cs[j]? = some x) : loadV s (.pointer (some ⟨blk v, offs v + j, none⟩)) = some (x, s) := by
  obtain ⟨a, cap, rfl, _, _, ha⟩ := h.at_
  have hj : j < n * size := by rw [← h.len]; exact (List.getElem?_eq_some_iff.1 hx).1
  cases a with
  | none =>
    simp only at ha
    rw [ha.1] at hj; simp at hj
  | some a =>
    obtain ⟨c, h1, h2⟩ := ha
    show optE (s.cells? a.block) none (fun c => optV s c[a.off + j]?) = _
    rw [h1, optE_some, sub_get h2 hj, hx]
    rfl

theorem Shows.cells (h : Shows s v size n cs) {j m : Nat} (hj : j + m ≤ n * size) (hm : 0 < m) : loadNV s m (.pointer (some ⟨blk v, offs v + j, none⟩)) = some (aggV ((cs.drop j).take m), s) := by
  obtain ⟨a, cap, rfl, _, _, ha⟩ := h.at_
  cases a with
  | none =>
    simp only at ha
    rw [ha.1] at hj; simp at hj; omega
  | some a =>
    obtain ⟨c, h1, h2⟩ := ha
    show optE (s.cells? a.block) none (fun c => optV s ((sub c (a.off + j) m).map aggV)) = _
    rw [h1, optE_some, sub_sub h2 hj]
    rfl

theorem Shows.keep (h : Shows s v size n cs) {s' : St} (hk : Keep No s s') : Shows s' v size n cs := by
  obtain ⟨a, cap, rfl, h1, h2, ha⟩ := h.at_
  refine ⟨h.len, a, cap, rfl, h1, h2, ?_⟩
  cases a with
  | none => exact ha
  | some a =>
    obtain ⟨c, h3, h4⟩ := ha
    exact ⟨c, hk.cellsNo h3, h4⟩

theorem Shows.keepF (h : Shows s v size n cs) {F : Nat → Prop} {s' : St} (hk : Keep F s s') (hF : ∀ e, s.ent? (blk v) = some e → ¬ F e.fam) : Shows s' v size n cs := by
  obtain ⟨a, cap, rfl, h1, h2, ha⟩ := h.at_
  refine ⟨h.len, a, cap, rfl, h1, h2, ?_⟩
  cases a with
  | none => exact ha
  | some a =>
    obtain ⟨c, h3, h4⟩ := ha
    exact ⟨c, hk.cells h3 hF, h4⟩

theorem shows_nil (s : St) (size : Nat) : Shows s (.slice none 0 0) size 0 [] := ⟨by simp, none, 0, rfl, Nat.le_refl _, rfl, rfl, rfl⟩

theorem Shows.shown (h : Shows s v size n cs) : ∃ b cap, v = .slice b n cap ∧ shownBy s size b n = some cs := by
  obtain ⟨a, cap, rfl, _, _, ha⟩ := h.at_
  refine ⟨a, cap, rfl, ?_⟩
  cases a with
  | none =>
    obtain ⟨rfl, _⟩ := ha
    have : cs = [] := List.eq_nil_of_length_eq_zero (by simpa using h.len)
    subst this
    rfl
  | some a =>
    obtain ⟨c, h1, h2⟩ := ha
    unfold shownBy
    simp only [h1, optE_some]
    exact h2
end

/-- A slice of a new object. -/
theorem shows_own {s : St} {i f n size : Nat} {e : Bool} {cs : List Value} (h : Own s i f cs) (hl : cs.length = n * size) : Shows s (.slice (some ⟨i, 0, mkSpot size e⟩) n n) size n cs := by
  refine ⟨hl, some ⟨i, 0, mkSpot size e⟩, n, rfl, Nat.le_refl _, ?_, cs, h.cells, ?_⟩
  · have h : (2 * size + cond e 1 0) / 2 = size := by cases e <;> (simp only [cond_true, cond_false]; omega)
    show Nat.beq ((2 * size + cond e 1 0) / 2) size = true
    rw [h]; exact Nat.beq_refl size
  · show sub cs 0 (n * size) = some cs
    rw [← hl]
    unfold sub
    have : Nat.ble (0 + cs.length) cs.length = true := by rw [Nat.ble_eq]; omega
    rw [this, ifB_true]; simp

/-! ## A slice that is made by appending -/

/-- A slice of one's own, made since `s0`: all of its object, without room that is known. -/
def Grows (s0 s : St) (v : Value) (size n : Nat) (cs : List Value) : Prop :=
  cs.length = n * size ∧ ((v = .slice none 0 0 ∧ n = 0) ∨ ∃ i f e, v = .slice (some ⟨i, 0, mkSpot size e⟩) n n ∧ Own s i f cs ∧ s0.next ≤ f)

theorem grows_nil (s0 s : St) (size : Nat) : Grows s0 s (.slice none 0 0) size 0 [] := ⟨by simp, .inl ⟨rfl, rfl⟩⟩

theorem spot_same (size : Nat) (e : Bool) : spotSize (mkSpot size e) size = true := by
  have h : (2 * size + cond e 1 0) / 2 = size := by cases e <;> (simp only [cond_true, cond_false]; omega)
  show Nat.beq ((2 * size + cond e 1 0) / 2) size = true
  rw [h]; exact Nat.beq_refl size

theorem sub_all (c : List Value) : sub c 0 c.length = some c := by
  unfold sub
  have : Nat.ble (0 + c.length) c.length = true := by rw [Nat.ble_eq]; omega
  rw [this, ifB_true]; simp

theorem Grows.shows {s0 s : St} {v : Value} {size n : Nat} {cs : List Value} (h : Grows s0 s v size n cs) : Shows s v size n cs := by
  obtain ⟨hl, h | ⟨i, f, e, rfl, ho, _⟩⟩ := h
  · obtain ⟨rfl, rfl⟩ := h
    exact ⟨hl, none, 0, rfl, Nat.le_refl _, rfl, rfl, rfl⟩
  · refine ⟨hl, some ⟨i, 0, mkSpot size e⟩, n, rfl, Nat.le_refl _, spot_same size e, cs, ho.cells, ?_⟩
    rw [← hl]; exact sub_all cs

theorem Grows.keep {s0 s s' : St} {v : Value} {size n : Nat} {cs : List Value} (h : Grows s0 s v size n cs) (hw : Wf s) (hk : Keep No s s') : Grows s0 s' v size n cs := by
  obtain ⟨hl, h | ⟨i, f, e, rfl, ho, hf⟩⟩ := h
  · exact ⟨hl, .inl h⟩
  · exact ⟨hl, .inr ⟨i, f, e, rfl, ho.keep hw hk id, hf⟩⟩

theorem Grows.keepF {s0 s s' : St} {v : Value} {size n : Nat} {cs : List Value} (h : Grows s0 s v size n cs) (hw : Wf s) {F : Nat → Prop} (hk : Keep F s s') (hF : ∀ f, s0.next ≤ f → ¬ F f) : Grows s0 s' v size n cs := by
  obtain ⟨hl, h | ⟨i, f, e, rfl, ho, hf⟩⟩ := h
  · exact ⟨hl, .inl h⟩
  · exact ⟨hl, .inr ⟨i, f, e, rfl, ho.keep hw hk (hF f hf), hf⟩⟩
theorem Grows.weaken {s0 s1 s : St} {v : Value} {size n : Nat} {cs : List Value} (h : Grows s1 s v size n cs) (hn : s0.next ≤ s1.next) : Grows s0 s v size n cs := by
  obtain ⟨hl, h | ⟨i, f, e, rfl, ho, hf⟩⟩ := h
  · exact ⟨hl, .inl h⟩
  · exact ⟨hl, .inr ⟨i, f, e, rfl, ho, Nat.le_trans hn hf⟩⟩

/-- An append. -/
theorem Grows.append {s0 s : St} {v y : Value} {size bytes n m : Nat} {cs new : List Value} (h : Grows s0 s v size n cs) (hw : Wf s) (hw0 : Wf s0) (hk : Keep No s0 s) (hy : Shows s y size m new) (hm : 0 < m) (_hsz : 0 < size) (hb : (n + m) * bytes ≤ maxBytes) :
    ∃ v' s', appendV s size bytes v y = some (v', s') ∧ Wf s' ∧ Keep No s0 s' ∧ Grows s0 s' v' size (n + m) (cs ++ new) := by
  obtain ⟨b, cap, rfl, hsh⟩ := hy.shown
  have hlen : (cs ++ new).length = (n + m) * size := by rw [List.length_append, h.1, hy.len, Nat.add_mul]
  have hbl : Nat.ble ((n + m) * bytes) maxBytes = true := by rw [Nat.ble_eq]; exact hb
  obtain ⟨hl, h | ⟨i, f, e, rfl, ho, hf⟩⟩ := h
  · obtain ⟨rfl, rfl⟩ := h
    have hcs : cs = [] := List.eq_nil_of_length_eq_zero (by simpa using hl)
    subst hcs
    have hnb : Nat.ble (0 + m) 0 = false := by
      cases hx : Nat.ble (0 + m) 0 with
      | false => rfl
      | true => rw [Nat.ble_eq] at hx; omega
    obtain ⟨k1, k2⟩ := new_ok hw (.cells new)
    refine ⟨.slice (some ⟨s.next, 0, mkSpot size false⟩) (0 + m) (0 + m), s.new (.cells new), ?_, k1, hk.trans k2, ?_⟩
    · unfold appendV
      simp only [addrSize, ifB_true, hsh, optE_some]
      unfold appendTo
      rw [hnb, ifB_false, hbl, ifB_true]
      unfold beyondTo
      simp
    · refine ⟨hlen, .inr ⟨s.next, s.next, false, rfl, ?_, hk.next⟩⟩
      simpa using new_own hw new
  · have hnb : Nat.ble (n + m) n = false := by
      cases hx : Nat.ble (n + m) n with
      | false => rfl
      | true => rw [Nat.ble_eq] at hx; omega
    have hsub : sub cs 0 (n * size) = some cs := by rw [← hl]; exact sub_all cs
    have hend : Nat.beq (0 + n * size) cs.length = true := by rw [Nat.beq_eq]; omega
    have main : ∀ s', s.grown i (spotIs (mkSpot size e) (2 * size + 1)) (Nat.beq (0 + n * size) cs.length) (cs ++ new) = some s' → appendV s size bytes (.slice (some ⟨i, 0, mkSpot size e⟩) n n) (.slice b m cap) = some (.slice (some ⟨s.next, 0, mkSpot size false⟩) (n + m) (n + m), s') := by
      intro s' hg
      unfold appendV
      simp only [addrSize, spot_same, ifB_true, hsh, optE_some]
      unfold appendTo
      rw [hnb, ifB_false, hbl, ifB_true]
      unfold beyondTo cellsV
      simp only [ho.cells, optE_some]
      unfold growV
      simp only [hsub, optE_some, hg]
    cases e with
    | true =>
      have hx : spotIs (mkSpot size true) (2 * size + 1) = true := by simp [spotIs, mkSpot]
      rw [hx] at main
      obtain ⟨k1, k2⟩ := new_ok hw (.cells (cs ++ new))
      refine ⟨_, _, main _ rfl, k1, hk.trans k2, hlen, .inr ⟨s.next, s.next, false, rfl, new_own hw _, hk.next⟩⟩
    | false =>
      have hx : spotIs (mkSpot size false) (2 * size + 1) = false := nbeq_false (by show 2 * size + 0 ≠ 2 * size + 1; omega)
      rw [hx, hend] at main
      obtain ⟨s', g1, g2, g3, g4, g5⟩ := grow_own hw ho (cs ++ new)
      exact ⟨_, _, main _ g1, g2, hk.fresh g5 (fun g hg => by subst hg; exact hf) hw0, hlen, .inr ⟨s.next, f, false, rfl, g4, hf⟩⟩

/-- A store into an object of one's own. -/
theorem store_own {s : St} (hw : Wf s) {i f off : Nat} {c : List Value} (ho : Own s i f c) {v : Value} {vs : List Value} (hv : v.cells.toList = vs) (hok : cellsOk vs = true) (hfit : off + vs.length ≤ c.length) :
    ∃ s', storeV s vs.length (.pointer (some ⟨i, off, none⟩)) v = some (Go.undef, s') ∧ Wf s' ∧ s'.next = s.next ∧ Own s' i f (c.take off ++ (vs ++ c.drop (off + vs.length))) ∧ Keep (fun g => g = f) s s' := by
  obtain ⟨s', h1, h2, h3, h4, h5⟩ := put_own hw ho (c.take off ++ (vs ++ c.drop (off + vs.length)))
  refine ⟨s', ?_, h2, h3, h4, h5⟩
  have hsz : v.cells.size = vs.length := by rw [← hv]; simp
  show ifB (Nat.beq v.cells.size vs.length && cellsOk v.cells.toList) (optS (s.write i off v.cells.toList)) none = _
  rw [hv, hok, hsz, Nat.beq_refl]
  show optS (s.write i off vs) = _
  have : s.write i off vs = some s' := by
    unfold St.write
    rw [ho.cells, optE_some]
    have hb : Nat.ble (off + vs.length) c.length = true := by rw [Nat.ble_eq]; exact hfit
    unfold over
    rw [hb, ifB_true, optE_some]
    exact h1
  rw [this]; rfl

/-! ## Parts laid into a row -/
@[go_sem] theorem sub_two (a b : Value) : sub [a, b] 0 2 = some [a, b] := (rfl)
@[go_sem] theorem sub_three (a b c : Value) : sub [a, b, c] 0 3 = some [a, b, c] := (rfl)
@[go_sem] theorem xMap_some {α β : Type} (f : α → β) (x : α) : Option.map f (some x) = some (f x) := (rfl)
theorem oneCell_cells {v : Value} (h : AI.oneCell v = true) : v.cells = #[v] ∧ isUndef v = false := by
  cases v <;> first
    | exact ⟨rfl, rfl⟩
    | exact absurd h (by decide)
    | (exfalso; revert h; simp [AI.oneCell])

@[go_sem] theorem build_pair (z0 z1 a b : Value) (K : List Value → VS) : buildV (repeatN [z0, z1] 1) [(0, 2)] [.agg #[a, b]] K = K [a, b] := rfl
theorem build_two {x y : Value} (hx : AI.oneCell x = true) (hy : AI.oneCell y = true) (z0 z1 : Value) (K : List Value → VS) : buildV [z0, z1] [(0, 1), (1, 1)] [x, y] K = K [x, y] := by
  obtain ⟨h1, h2⟩ := oneCell_cells hx
  obtain ⟨h3, h4⟩ := oneCell_cells hy
  have hf : firm [x, y] = true := by
    show ifB (isUndef x) false (ifB (isUndef y) false true) = true
    rw [h2, h4]; rfl
  unfold buildV
  rw [hf]
  simp only [cond_true, fillV, h1, h3]
  rfl
theorem build_three {x y z : Value} (hx : AI.oneCell x = true) (hy : AI.oneCell y = true) (hz : AI.oneCell z = true) (z0 z1 z2 : Value) (K : List Value → VS) : buildV [z0, z1, z2] [(0, 1), (1, 1), (2, 1)] [x, y, z] K = K [x, y, z] := by
  obtain ⟨h1, h2⟩ := oneCell_cells hx
  obtain ⟨h3, h4⟩ := oneCell_cells hy
  obtain ⟨h5, h6⟩ := oneCell_cells hz
  have hf : firm [x, y, z] = true := by
    show ifB (isUndef x) false (ifB (isUndef y) false (ifB (isUndef z) false true)) = true
    rw [h2, h4, h6]; rfl
  unfold buildV
  rw [hf]
  simp only [cond_true, fillV, h1, h3, h5]
  rfl

/-! ## Lists of numbers, of edges -/

def ints (l : List Int) : List Value := l.map (.int .i64)
def pairs (l : List (Int × Int)) : List Value := l.flatMap fun p => [.int .i64 p.1, .int .i64 p.2]

theorem ints_get (l : List Int) (i : Nat) : (ints l)[i]? = (l[i]?).map (.int .i64) := by simp [ints]
theorem ints_length (l : List Int) : (ints l).length = l.length := by simp [ints]
theorem pairs_length (l : List (Int × Int)) : (pairs l).length = l.length * 2 := by
  induction l with
  | nil => rfl
  | cons p l ih => simp [pairs] at ih ⊢; omega
theorem pairs_cons (p : Int × Int) (l : List (Int × Int)) : pairs (p :: l) = .int .i64 p.1 :: .int .i64 p.2 :: pairs l := by simp [pairs]
theorem pairs_append (l m : List (Int × Int)) : pairs (l ++ m) = pairs l ++ pairs m := by simp [pairs]
theorem pairs_get : ∀ (l : List (Int × Int)) (i : Nat) (p : Int × Int), l[i]? = some p → (pairs l)[i * 2]? = some (.int .i64 p.1) ∧ (pairs l)[i * 2 + 1]? = some (.int .i64 p.2) := by
  intro l
  induction l with
  | nil => intro i p h; simp at h
  | cons q l ih =>
    intro i p h
    rw [pairs_cons]
    cases i with
    | zero => simp at h; subst h; simp
    | succ i =>
      simp only [List.getElem?_cons_succ] at h
      obtain ⟨h1, h2⟩ := ih i p h
      have e1 : (i + 1) * 2 = i * 2 + 1 + 1 := by omega
      rw [e1]
      exact ⟨by simpa using h1, by simpa using h2⟩

theorem pairs_cut (l : List (Int × Int)) (i : Nat) (p : Int × Int) (h : l[i]? = some p) : ((pairs l).drop (i * 2)).take 2 = [.int .i64 p.1, .int .i64 p.2] := by
  obtain ⟨h1, h2⟩ := pairs_get l i p h
  have hlt : i * 2 + 1 < (pairs l).length := (List.getElem?_eq_some_iff.1 h2).1
  rw [List.drop_eq_getElem_cons (by omega), List.drop_eq_getElem_cons hlt]
  rw [List.getElem?_eq_getElem (by omega)] at h1 h2
  simp only [Option.some.injEq] at h1 h2
  rw [h1, h2]; rfl

/-- A count goes on. -/
theorem wrap_succ {i n : Nat} (h : i < n) (hn : n ≤ maxBytes) : IntKind.i64.wrap ((i : Int) + 1) = ((i + 1 : Nat) : Int) := by
  have : maxBytes = 140737488355328 := rfl
  rw [IntWalk.i64_in _ (by omega)]
  omega

end Go.AI
