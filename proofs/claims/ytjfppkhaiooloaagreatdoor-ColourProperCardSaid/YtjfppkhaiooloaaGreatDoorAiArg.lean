/- A slice of whole numbers (or of structs of them) that is handed in: an object that is never written. -/
import Derived.Test.YtjfppkhaiooloaaGreatDoorAiSl
namespace Go.AI
open Go.ChangeShapes Go.WideShapes Go.ChangeAt Go.RowKit

noncomputable def absS (none : Bool) (i size n : Nat) : Value := bif none then .slice .none 0 0 else .slice (some ⟨i, 0, mkSpot size false⟩) n n

theorem absS_shows {s : St} {z : Bool} {i size n : Nat} {vs : List Value} (hz : z = true → n = 0) (hl : vs.length = n * size) (h : s.ent? i = some ⟨.cells vs, i, 0, true⟩) : Shows s (absS z i size n) size n vs := by
  cases z with
  | true =>
    obtain rfl := hz rfl
    have : vs = [] := List.eq_nil_of_length_eq_zero (by simpa using hl)
    subst this
    exact shows_nil s size
  | false =>
    refine ⟨hl, some ⟨i, 0, mkSpot size false⟩, n, rfl, Nat.le_refl _, spot_same size false, vs, cells?_ent h, ?_⟩
    rw [← hl]; exact sub_all vs

theorem cellsOk_ints : ∀ {vs : List Value}, (∀ u ∈ vs, ∃ k : Int, u = .int .i64 k) → cellsOk vs = true := by
  intro vs
  induction vs with
  | nil => intro _; rfl
  | cons v vs ih =>
    intro h
    obtain ⟨k, rfl⟩ := h v (List.mem_cons_self ..)
    exact ih fun u hu => h u (List.mem_cons_of_mem _ hu)

section
variable {H : Type} {enc : TypeId × Value → H} {P : Program} {W : World}

theorem slice_arg {r : Reach} {b0 : Nat} {t e : TypeId} {v : Value} {d : DataW H} {ps : List MemPlace} {size : Nat} (ht : P.underlying t = some (.slice e)) (hsz : P.cellsOf e = size) (hpos : 0 < size)
    (hval : Cell.okWide P W r b0 t v) {fuel : Nat} (h : DataW.trod enc P W 0 (fun _ => true) true fuel t [v] = some (d, ps)) (h0 : ∃ cs elem fr, W.heap[0]? = some (.cells cs elem fr))
    (hel : ∀ n cs y, DataW.trod enc P W 0 (fun _ => true) true n e cs = some y → ∀ u ∈ cs, ∃ k : Int, u = .int .i64 k) :
    ∃ (l : Loc) (vs : List Value) (n : Nat) (z : Bool), (∀ LR μ, ObjR LR μ W (.cells vs) true l) ∧ vs.length = n * size ∧ (∀ u ∈ vs, ∃ k : Int, u = .int .i64 k) ∧ (z = true → n = 0) ∧
      (∀ i (μ : Mu), μ i = some l → VR μ (absS z i size n) v) ∧ ((n = 0) ∨ ∃ es rest, d = .slice es rest ∧ es.length = n) := by
  rcases DataW.trod_slice ht h with ⟨hv, hx⟩ | ⟨a, len, cap, elems, rest, m, _, hv, hx, _, hlc, _, hlen, hels, hsp, _⟩
  · simp only [List.cons.injEq, and_true] at hv
    subst hv
    obtain ⟨cs, elem, fr, hh⟩ := h0
    refine ⟨⟨0, 0, 0⟩, [], 0, true, fun LR μ => ⟨cs, elem, fr, hh, (fun x => by cases x), Nat.le_refl _, Nat.zero_le _, rfl, fun i v hi => by simp at hi⟩, by simp, by simp, fun _ => rfl, fun _ _ _ => .sliceNil, .inl rfl⟩
  · simp only [List.cons.injEq, and_true] at hv
    subst hv
    simp only [Prod.mk.injEq] at hx
    obtain ⟨rfl, _⟩ := hx
    obtain ⟨hrl, hrest⟩ := hsp rfl
    have hok : len ≤ cap ∧ (cap : Int) ≤ IntKind.i64.max ∧ W.has P r b0 a e cap := by
      unfold Cell.okWide at hval
      rw [ht] at hval
      simp only [Cell.ok, ht] at hval
      exact hval
    obtain ⟨_, _, _, hspot, row, cells, hshape, _⟩ := hok
    obtain ⟨cs, elem, fr, hh⟩ : ∃ cs elem fr, W.heap[a.block]? = some (.cells cs elem fr) := by
      unfold World.shape? at hshape
      split at hshape
      · exact ⟨_, _, _, by assumption⟩
      · cases hshape
    obtain ⟨ab, ao, as⟩ := a
    obtain rfl : as = none := hspot
    have hadd : ∀ k, (⟨ab, ao, none⟩ : Addr).add k = ⟨ab, ao + k, none⟩ := by
      intro k; unfold Addr.add; split
      · simp_all
      · rfl
    rw [hsz] at hels hrest
    have each : ∀ j, j < cap → ∃ c1 y, c1.length = size ∧ (∀ i, i < size → cs[ao + j * size + i]? = c1[i]?) ∧ DataW.trod enc P W 0 (fun _ => true) true m e c1 = some y := by
      intro j hj
      have hb : ∃ y, (W.cells? 0 ((⟨ab, ao, none⟩ : Addr).add (j * size)) size).bind (DataW.trod enc P W 0 (fun _ => true) true m e) = some y := by
        by_cases hjl : j < len
        · exact ⟨elems[j], by rw [hels j hjl, List.getElem?_eq_getElem]⟩
        · have := hrest (j - len) (by omega)
          rw [show len + (j - len) = j by omega] at this
          exact ⟨rest[j - len], by rw [this, List.getElem?_eq_getElem]⟩
      obtain ⟨y, hy⟩ := hb
      rw [Option.bind_eq_some_iff] at hy
      obtain ⟨c1, hc1, hy⟩ := hy
      obtain ⟨_, hcl, hcg⟩ := World.cells?_some hc1
      refine ⟨c1, y, hcl, fun i hi => ?_, hy⟩
      have := hcg i hi
      rw [hadd, show (⟨ab, ao + j * size, none⟩ : Addr).add i = ⟨ab, ao + j * size + i, none⟩ by unfold Addr.add; split <;> simp_all] at this
      rw [← this]
      unfold World.cell?
      rw [show ((⟨ab, ao + j * size + i, none⟩ : Addr).block) = ab from rfl, hh]
      rfl
    have ints : ∀ i, i < len * size → ∃ k : Int, cs[ao + i]? = some (.int .i64 k) := by
      intro i hi
      have hj : i / size < len := Nat.div_lt_of_lt_mul (by rw [Nat.mul_comm]; exact hi)
      obtain ⟨c1, y, h1, h2, h3⟩ := each (i / size) (by omega)
      have hm := Nat.mod_lt i hpos
      have h4 := h2 (i % size) hm
      rw [Nat.add_assoc, Nat.div_add_mod' i size] at h4
      have hu : c1[i % size]? = some c1[i % size] := by rw [List.getElem?_eq_getElem]
      obtain ⟨k, hk⟩ := hel m c1 y h3 c1[i % size] (List.getElem_mem _)
      exact ⟨k, by rw [h4, hu, hk]⟩
    have room : cap = 0 ∨ ao + cap * size ≤ cs.size := by
      by_cases hc : cap = 0
      · exact .inl hc
      · right
        obtain ⟨c1, y, h1, h2, _⟩ := each (cap - 1) (by omega)
        have h4 := h2 (size - 1) (by omega)
        have hu : c1[size - 1]? = some c1[size - 1] := by rw [List.getElem?_eq_getElem]
        rw [hu] at h4
        have := (Array.getElem?_eq_some_iff.1 h4).1
        have e1 : (cap - 1) * size + size = cap * size := by
          rw [← Nat.succ_mul]; congr 1; omega
        omega
    have base : ∀ (l : Loc), l.block = ab → l.lim ≤ cs.size → l.base + len * size ≤ l.lim → (len = 0 ∨ l.base = ao) →
        ∃ vs : List Value, (∀ LR μ, ObjR LR μ W (.cells vs) true l) ∧ vs.length = len * size ∧ (∀ u ∈ vs, ∃ k : Int, u = .int .i64 k) := by
      intro l hlb hll hlim hbase
      have hlen' : ((cs.toList.drop l.base).take (len * size)).length = len * size := by
        rw [List.length_take, List.length_drop, Array.length_toList]
        omega
      have hall : ∀ i u, ((cs.toList.drop l.base).take (len * size))[i]? = some u → cs[l.base + i]? = some u ∧ ∃ k : Int, u = .int .i64 k := by
        intro i u hu
        have hi : i < len * size := by rw [← hlen']; exact (List.getElem?_eq_some_iff.1 hu).1
        rw [List.getElem?_take, if_pos hi, List.getElem?_drop] at hu
        have hu' : cs[l.base + i]? = some u := by simpa using hu
        refine ⟨hu', ?_⟩
        rcases hbase with h | h
        · subst h; simp at hi
        · obtain ⟨k, hk⟩ := ints i hi
          rw [h, hk] at hu'
          exact ⟨k, (Option.some.inj hu').symm⟩
      have hmem : ∀ u ∈ (cs.toList.drop l.base).take (len * size), ∃ k : Int, u = .int .i64 k := by
        intro u hu
        obtain ⟨i, hi⟩ := List.getElem?_of_mem hu
        exact (hall i u hi).2
      refine ⟨(cs.toList.drop l.base).take (len * size), fun LR μ => ?_, hlen', hmem⟩
      refine ⟨cs, elem, fr, by rw [hlb]; exact hh, (fun x => by cases x), by rw [hlen']; exact hlim, hll, cellsOk_ints hmem, fun i u hu => ?_⟩
      obtain ⟨h1, k, rfl⟩ := hall i u hu
      exact ⟨_, h1, .int _ _⟩
    have hlc' : len * size ≤ cap * size := Nat.mul_le_mul_right _ hlc
    rcases room with hc | hc
    · obtain rfl : len = 0 := by omega
      obtain ⟨vs, h1, h2, h3⟩ := base ⟨ab, 0, 0⟩ rfl (Nat.zero_le _) (by simp) (.inl rfl)
      exact ⟨_, vs, 0, false, h1, h2, h3, fun _ => rfl, fun i μ hμ => .slice (l := ⟨ab, 0, 0⟩) hμ (Nat.le_refl _) (Nat.zero_le _) (fun x => by cases x) (by rw [hc]; simp) (.inl hc), .inl rfl⟩
    · obtain ⟨vs, h1, h2, h3⟩ := base ⟨ab, ao, ao + cap * size⟩ rfl hc (by show ao + len * size ≤ ao + cap * size; omega) (.inr rfl)
      exact ⟨_, vs, len, false, h1, h2, h3, (fun x => by cases x), fun i μ hμ => .slice (l := ⟨ab, ao, ao + cap * size⟩) hμ (Nat.le_refl _) hlc (fun x => by cases x) (Nat.le_refl _) (.inr rfl), .inr ⟨_, _, rfl, by simpa using hlen⟩⟩
end
end Go.AI
namespace Go.AI
theorem ints_of : ∀ {vs : List Value}, (∀ u ∈ vs, ∃ k : Int, u = .int .i64 k) → ∃ c : List Int, vs = ints c := by
  intro vs
  induction vs with
  | nil => intro _; exact ⟨[], rfl⟩
  | cons v vs ih =>
    intro h
    obtain ⟨k, rfl⟩ := h v (List.mem_cons_self ..)
    obtain ⟨c, rfl⟩ := ih fun u hu => h u (List.mem_cons_of_mem _ hu)
    exact ⟨k :: c, rfl⟩
theorem pairs_of : ∀ {n : Nat} {vs : List Value}, vs.length = n * 2 → (∀ u ∈ vs, ∃ k : Int, u = .int .i64 k) → ∃ l : List (Int × Int), l.length = n ∧ vs = pairs l := by
  intro n
  induction n with
  | zero => intro vs hl _; exact ⟨[], rfl, List.eq_nil_of_length_eq_zero (by simpa using hl)⟩
  | succ n ih =>
    intro vs hl h
    match vs, hl with
    | [], hl => simp at hl
    | [_], hl => simp at hl; omega
    | u :: w :: vs, hl =>
      obtain ⟨a, rfl⟩ := h u (by simp)
      obtain ⟨b, rfl⟩ := h w (by simp)
      obtain ⟨l, h1, rfl⟩ := ih (vs := vs) (by simp at hl; omega) fun u hu => h u (by simp [hu])
      exact ⟨(a, b) :: l, by simp [h1], (pairs_cons (a, b) l).symm⟩
end Go.AI
